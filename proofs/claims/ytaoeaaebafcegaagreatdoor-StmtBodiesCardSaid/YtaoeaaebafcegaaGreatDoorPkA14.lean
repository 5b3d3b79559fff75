/- Chapter 04 (statements), joined: PalA, PalD, ParD, ParE, PalG, PalI. -/
import Derived.Test.YtaoeaaebafcegaaGreatDoorPkA10
import Derived.Test.YtaoeaaebafcegaaGreatDoorPkA13
import Derived.Deep.DeepCutAuto
import Derived.Deep.RegionWith
set_option maxRecDepth 100000
set_option maxHeartbeats 20000000
namespace Go.Proofs.YtaoeaaebafcegaaGreatDoor
open Go Go.RowKit
set_option linter.unusedVariables false
structure Keep (g:Nat) (w w':World):Prop where
 os:w'.os=w.os
 tape:w'.tape=w.tape
 output:w'.output=w.output
 size:w.heap.size≤w'.heap.size
 block:∀ k,k < w.heap.size→k≠g→w'.heap[k]? = w.heap[k]?
theorem Keep.refl (g:Nat) (w:World):Keep g w w:=⟨rfl,rfl,rfl,Nat.le_refl _,fun _ _ _=>rfl⟩
theorem Keep.trans {g:Nat} {a b c:World} (h:Keep g a b) (k:Keep g b c):Keep g a c :=
 ⟨k.os.trans h.os,k.tape.trans h.tape,k.output.trans h.output,Nat.le_trans h.size k.size,fun i hi hne=>(k.block i (Nat.lt_of_lt_of_le hi h.size) hne).trans (h.block i hi hne)⟩
theorem Keep.of {g:Nat} {a b:World} (h:Below a.heap.size a b):Keep g a b:=⟨h.os,h.tape,h.output,h.size,fun i hi _=>h.block i hi⟩
theorem Keep.below {g:Nat} {a b:World} (h:Keep g a b) (hg:g≤a.heap.size):Below g a b:=⟨h.os,h.tape,h.output,h.size,fun i hi=>h.block i (by omega) (by omega)⟩
theorem Keep.drew {g:Nat} {a b:World} (h:Keep g a b):Keep g a b.drew:=⟨h.os,h.tape,h.output,h.size,h.block⟩
theorem Keep.drewN {g:Nat} {a b:World} (h:Keep g a b) (n:Nat):Keep g a (b.drewN n):=⟨h.os,h.tape,h.output,h.size,h.block⟩
theorem Keep.set {g:Nat} {a b:World} (h:Keep g a b) (o:Nat) (u:Value):Keep g a (b.setCell ⟨g,o,none⟩ u) :=
 ⟨h.os,h.tape,h.output,by rw [World.size_setCell];exact h.size,fun k hk hne=>(Below.heap_setCell _ _ _ _ (fun e=>hne e)).trans (h.block k hk hne)⟩
theorem Keep.alloc {g:Nat} {a b:World} (h:Keep g a b) (o:Obj):Keep g a (b.alloc o):=h.trans (Keep.of ((Below.refl _ _).alloc (Nat.le_refl _) _))
theorem SlN.keep {g:Nat} {w w':World} {v:Value} {size n:Nat} {cs:List Value} (h:SlN w v size n cs) {B:Nat} (hf:Fresh B v) (hg:g < B) (hk:Keep g w w'):SlN w' v size n cs:=by
 obtain ⟨h1,A,c,rfl,hc,hr⟩:=h
 refine ⟨h1,A,c,rfl,hc,fun h0=>?_⟩
 obtain ⟨b,off,rfl,hlt,hcell⟩:=hr h0
 have hb:B≤b:=hf _ _ _ rfl
 refine ⟨b,off,rfl,Nat.lt_of_lt_of_le hlt hk.size,fun j x hj=>?_⟩
 have:=hcell j x hj
 unfold World.cell? at this ⊢
 rw [hk.block b hlt (by omega)]
 exact this
structure Par (w:World) (g:Nat) (v:Value) (i d e p:Int):Prop where
 lt:g < w.heap.size
 c0:w.cell? ⟨g,0,none⟩=some v
 c1:w.cell? ⟨g,1,none⟩=some (.int .i64 i)
 c2:w.cell? ⟨g,2,none⟩=some (.int .i64 d)
 c3:w.cell? ⟨g,3,none⟩=some (.int .i64 e)
 c4:w.cell? ⟨g,4,none⟩=some (.int .i64 p)
 f1:w.frozen? ⟨g,1,none⟩=false
 f2:w.frozen? ⟨g,2,none⟩=false
 f3:w.frozen? ⟨g,3,none⟩=false
 f4:w.frozen? ⟨g,4,none⟩=false
theorem Par.belowB {w w':World} {g B:Nat} {v:Value} {i d e p:Int} (h:Par w g v i d e p) (hb:Below B w w') (hlt:g < B):Par w' g v i d e p:=by
 have hs:=hb.size
 have hl:=h.lt
 exact ⟨by omega,(hb.cell (p:=⟨g,0,none⟩) hlt).trans h.c0,(hb.cell (p:=⟨g,1,none⟩) hlt).trans h.c1,(hb.cell (p:=⟨g,2,none⟩) hlt).trans h.c2,(hb.cell (p:=⟨g,3,none⟩) hlt).trans h.c3,(hb.cell (p:=⟨g,4,none⟩) hlt).trans h.c4,
  (hb.frozen (p:=⟨g,1,none⟩) hlt).trans h.f1,(hb.frozen (p:=⟨g,2,none⟩) hlt).trans h.f2,(hb.frozen (p:=⟨g,3,none⟩) hlt).trans h.f3,(hb.frozen (p:=⟨g,4,none⟩) hlt).trans h.f4⟩
theorem Par.below {w w':World} {g:Nat} {v:Value} {i d e p:Int} (h:Par w g v i d e p) (hb:Below w.heap.size w w'):Par w' g v i d e p:=h.belowB hb h.lt
theorem Par.set1 {w:World} {g:Nat} {v:Value} {i d e p:Int} (h:Par w g v i d e p) (j:Int):Par (w.setCell ⟨g,1,none⟩ (.int .i64 j)) g v j d e p:=by
 obtain ⟨hl,h0,h1,h2,h3,h4,f1,f2,f3,f4⟩:=h
 refine ⟨by simpa [World.setCell] using hl,?_,?_,?_,?_,?_,?_,?_,?_,?_⟩ <;> simp [*,go_sem]
theorem Par.set2 {w:World} {g:Nat} {v:Value} {i d e p:Int} (h:Par w g v i d e p) (j:Int):Par (w.setCell ⟨g,2,none⟩ (.int .i64 j)) g v i j e p:=by
 obtain ⟨hl,h0,h1,h2,h3,h4,f1,f2,f3,f4⟩:=h
 refine ⟨by simpa [World.setCell] using hl,?_,?_,?_,?_,?_,?_,?_,?_,?_⟩ <;> simp [*,go_sem]
theorem Par.set3 {w:World} {g:Nat} {v:Value} {i d e p:Int} (h:Par w g v i d e p) (j:Int):Par (w.setCell ⟨g,3,none⟩ (.int .i64 j)) g v i d j p:=by
 obtain ⟨hl,h0,h1,h2,h3,h4,f1,f2,f3,f4⟩:=h
 refine ⟨by simpa [World.setCell] using hl,?_,?_,?_,?_,?_,?_,?_,?_,?_⟩ <;> simp [*,go_sem]
theorem Par.set4 {w:World} {g:Nat} {v:Value} {i d e p:Int} (h:Par w g v i d e p) (j:Int):Par (w.setCell ⟨g,4,none⟩ (.int .i64 j)) g v i d e j:=by
 obtain ⟨hl,h0,h1,h2,h3,h4,f1,f2,f3,f4⟩:=h
 refine ⟨by simpa [World.setCell] using hl,?_,?_,?_,?_,?_,?_,?_,?_,?_⟩ <;> simp [*,go_sem]
theorem Par.set34 {w:World} {g:Nat} {v:Value} {i d e p:Int} (h:Par w g v i d e p) (x y:Int):Par ((w.setCell ⟨g,3,none⟩ (.int .i64 x)).setCell ⟨g,4,none⟩ (.int .i64 y)) g v i d x y:=by
 obtain ⟨hl,h0,h1,h2,h3,h4,f1,f2,f3,f4⟩:=h
 refine ⟨by simpa [World.setCell] using hl,?_,?_,?_,?_,?_,?_,?_,?_,?_⟩ <;> simp [*,go_sem]
theorem Par.drewN {w:World} {g:Nat} {v:Value} {i d e p:Int} (h:Par w g v i d e p) (n:Nat):Par (w.drewN n) g v i d e p:=h.below ⟨rfl,rfl,rfl,Nat.le_refl _,fun _ _=>rfl⟩
theorem Par.drew {w:World} {g:Nat} {v:Value} {i d e p:Int} (h:Par w g v i d e p):Par w.drew g v i d e p:=h.below ⟨rfl,rfl,rfl,Nat.le_refl _,fun _ _=>rfl⟩
end Go.Proofs.YtaoeaaebafcegaaGreatDoor
namespace Go.Proofs.YtaoeaaebafcegaaGreatDoor
open Go Go.RowKit
set_option linter.unusedVariables false
theorem Env.belowB {w w':World} {B:Nat} (h:Env w) (hb:Below B w w') (hm:0 < B) (ht:1 < B):Env w':=by
 have:=hb.size
 have h1:=h.hm;have h2:=h.ht
 obtain ⟨m,h3⟩:=h.mlen
 exact ⟨by omega,by omega,⟨m,(hb.cell (p:=⟨_,0,none⟩) hm).trans h3⟩,var?_below hb (by kernel_rfl) ht h.tab⟩
structure Ctx (g:Nat) (v:Value) (l:List Tok) (w:World):Prop where
 toks:Sl w g v 4 l.length (l.flatMap Tok.cells)
 env:Env w
 em:0 < g
 et:1 < g
theorem Ctx.belowB {g:Nat} {v:Value} {l:List Tok} {w w':World} (h:Ctx g v l w) (hb:Below g w w'):Ctx g v l w' :=
 ⟨h.toks.below hb,h.env.belowB hb h.em h.et,h.em,h.et⟩
theorem Ctx.keep {g:Nat} {v:Value} {l:List Tok} {w w':World} (h:Ctx g v l w) (hk:Keep g w w') (hg:g < w.heap.size):Ctx g v l w':=h.belowB (hk.below (Nat.le_of_lt hg))
theorem Ctx.now {g:Nat} {v:Value} {l:List Tok} {w:World} (h:Ctx g v l w) (hg:g < w.heap.size):Toks w v l:=h.toks.more (Nat.le_of_lt hg)
theorem wrong_c (l:List Tok) (hl:l.length≤100000) (g:Nat) (v:Value) (i:Nat) (d e0:Int) (w:World) (hp:Par w g v i d 0 0) (hc:Ctx g v l w) :
 Calls Tryz.prog 147 #[.pointer (some ⟨g,0,none⟩),.int .i64 e0] w fun e w'=>e = .returned (.slice none 0 0)∧Keep g w w'∧Par w' g v i d (if l.length≤i∧e0=5 then 6 else e0) (placeE l i):=by
 have hct:=hc.now hp.lt
 obtain ⟨A,c,hve,hcc⟩:=hct.shape
 subst hve
 have HP:Hid (∀ u:World,Toks u (.slice A l.length c) l→Calls Tryz.prog 74 #[.slice A l.length c,.int .i64 i] u (PlacePostD l i u)):=fun u hu=>place_c l (by omega) i _ u hu
 have HPA:=Lib.hid hp
 have HC:=Lib.hid hc
 obtain ⟨pl,p0,p1,p2,p3,p4,pf1,pf2,pf3,pf4⟩:=hp
 clear hc hct
 by_cases h1:l.length≤i
 ·have hd:decide ((l.length:Int)≤(i:Int))=true:=by simp;omega
  have hd':decide (l.length≤i)=true:=by simp;omega
  cases h5:(e0 == 5)
  ·rw [if_neg (fun h=>by rw [h.2] at h5;cases h5)]
   go_enter Tryz.func147,Tryz.ntmps147
   go_wp2_with fail
   go_quiet (fail)
   go_wp2_with fail
   generalize hW:World.drewN w _=wd
   have hK:Keep g w wd:=by subst hW;exact (Keep.refl _ _).drewN _
   have hPd:Par wd g (.slice A l.length c) i d 0 0:=by subst hW;exact HPA.out.drewN _
   clear hW p0 p1 p2 p3 p4 pf1 pf2 pf3 pf4 pl
   have HPd:=Lib.hid hPd
   obtain ⟨pl,p0,p1,p2,p3,p4,pf1,pf2,pf3,pf4⟩:=hPd
   have HT:Hid (∀ u,Keep g wd u→Toks u (.slice A l.length c) l):=fun u hu=>(HC.out.keep (hK.trans hu) HPA.out.lt).now (Nat.lt_of_lt_of_le HPA.out.lt (hK.trans hu).size)
   go_region_with (go_at_call 74;refine (HP.out _ (HT.out _ ?_)).mono ?_;(first | exact (Keep.refl g wd) | exact (Keep.refl g wd).drew | exact (Keep.refl g wd).drew.drew | exact (Keep.refl g wd).drew.drew.drew | exact (Keep.refl g wd).drew.drew.drew.drew | exact ((Keep.refl g wd).set 3 _) | exact ((Keep.refl g wd).set 3 _).drew | exact ((Keep.refl g wd).set 3 _).drew.drew | exact ((Keep.refl g wd).set 3 _).drew.drew.drew | exact ((Keep.refl g wd).set 3 _).drew.drew.drew.drew);rintro e w5 ⟨rfl,hb5⟩;(first | (have hK5:=(Keep.refl g wd).trans (Keep.of hb5);have hP5:=HPd.out.below hb5) | (have hK5:=(Keep.refl g wd).drew.trans (Keep.of hb5);have hP5:=HPd.out.drew.below hb5) | (have hK5:=(Keep.refl g wd).drew.drew.trans (Keep.of hb5);have hP5:=HPd.out.drew.drew.below hb5) | (have hK5:=(Keep.refl g wd).drew.drew.drew.trans (Keep.of hb5);have hP5:=HPd.out.drew.drew.drew.below hb5) | (have hK5:=(Keep.refl g wd).drew.drew.drew.drew.trans (Keep.of hb5);have hP5:=HPd.out.drew.drew.drew.drew.below hb5) | (have hK5:=((Keep.refl g wd).set 3 _).trans (Keep.of hb5);have hP5:=(HPd.out.set3 _).below hb5) | (have hK5:=((Keep.refl g wd).set 3 _).drew.trans (Keep.of hb5);have hP5:=(HPd.out.set3 _).drew.below hb5) | (have hK5:=((Keep.refl g wd).set 3 _).drew.drew.trans (Keep.of hb5);have hP5:=(HPd.out.set3 _).drew.drew.below hb5) | (have hK5:=((Keep.refl g wd).set 3 _).drew.drew.drew.trans (Keep.of hb5);have hP5:=(HPd.out.set3 _).drew.drew.drew.below hb5) | (have hK5:=((Keep.refl g wd).set 3 _).drew.drew.drew.drew.trans (Keep.of hb5);have hP5:=(HPd.out.set3 _).drew.drew.drew.drew.below hb5));have HP5:=Lib.hid hP5;obtain ⟨ql,q0,q1,q2,q3,q4,qf1,qf2,qf3,qf4⟩:=hP5)
   all_goals
    go_wp2_with fail
    go_ret
    refine ⟨rfl,?_⟩
    first
     | exact ⟨hK.trans ((hK5.set _ _).set _ _),HP5.out.set34 _ _⟩
     | exact ⟨hK.trans ((hK5.set _ _).set _ _),HP5.out.set43 _ _⟩
     | exact ⟨hK.trans (hK5.set _ _),HP5.out.set4 _⟩
     | exact ⟨hK.trans ((hK5.set _ _).set _ _).drew,(HP5.out.set34 _ _).drew⟩
     | exact ⟨hK.trans ((hK5.set _ _).set _ _).drew,(HP5.out.set43 _ _).drew⟩
     | exact ⟨hK.trans (hK5.set _ _).drew,(HP5.out.set4 _).drew⟩
     | exact ⟨hK.trans ((hK5.set _ _).set _ _).drew.drew,(HP5.out.set34 _ _).drew.drew⟩
     | exact ⟨hK.trans ((hK5.set _ _).set _ _).drew.drew,(HP5.out.set43 _ _).drew.drew⟩
     | exact ⟨hK.trans (hK5.set _ _).drew.drew,(HP5.out.set4 _).drew.drew⟩
  ·rw [if_pos ⟨h1,eq_of_beq h5⟩]
   go_enter Tryz.func147,Tryz.ntmps147
   go_wp2_with fail
   go_quiet (fail)
   go_wp2_with fail
   generalize hW:World.drewN w _=wd
   have hK:Keep g w wd:=by subst hW;exact (Keep.refl _ _).drewN _
   have hPd:Par wd g (.slice A l.length c) i d 0 0:=by subst hW;exact HPA.out.drewN _
   clear hW p0 p1 p2 p3 p4 pf1 pf2 pf3 pf4 pl
   have HPd:=Lib.hid hPd
   obtain ⟨pl,p0,p1,p2,p3,p4,pf1,pf2,pf3,pf4⟩:=hPd
   have HT:Hid (∀ u,Keep g wd u→Toks u (.slice A l.length c) l):=fun u hu=>(HC.out.keep (hK.trans hu) HPA.out.lt).now (Nat.lt_of_lt_of_le HPA.out.lt (hK.trans hu).size)
   go_region_with (go_at_call 74;refine (HP.out _ (HT.out _ ?_)).mono ?_;(first | exact (Keep.refl g wd) | exact (Keep.refl g wd).drew | exact (Keep.refl g wd).drew.drew | exact (Keep.refl g wd).drew.drew.drew | exact (Keep.refl g wd).drew.drew.drew.drew | exact ((Keep.refl g wd).set 3 _) | exact ((Keep.refl g wd).set 3 _).drew | exact ((Keep.refl g wd).set 3 _).drew.drew | exact ((Keep.refl g wd).set 3 _).drew.drew.drew | exact ((Keep.refl g wd).set 3 _).drew.drew.drew.drew);rintro e w5 ⟨rfl,hb5⟩;(first | (have hK5:=(Keep.refl g wd).trans (Keep.of hb5);have hP5:=HPd.out.below hb5) | (have hK5:=(Keep.refl g wd).drew.trans (Keep.of hb5);have hP5:=HPd.out.drew.below hb5) | (have hK5:=(Keep.refl g wd).drew.drew.trans (Keep.of hb5);have hP5:=HPd.out.drew.drew.below hb5) | (have hK5:=(Keep.refl g wd).drew.drew.drew.trans (Keep.of hb5);have hP5:=HPd.out.drew.drew.drew.below hb5) | (have hK5:=(Keep.refl g wd).drew.drew.drew.drew.trans (Keep.of hb5);have hP5:=HPd.out.drew.drew.drew.drew.below hb5) | (have hK5:=((Keep.refl g wd).set 3 _).trans (Keep.of hb5);have hP5:=(HPd.out.set3 _).below hb5) | (have hK5:=((Keep.refl g wd).set 3 _).drew.trans (Keep.of hb5);have hP5:=(HPd.out.set3 _).drew.below hb5) | (have hK5:=((Keep.refl g wd).set 3 _).drew.drew.trans (Keep.of hb5);have hP5:=(HPd.out.set3 _).drew.drew.below hb5) | (have hK5:=((Keep.refl g wd).set 3 _).drew.drew.drew.trans (Keep.of hb5);have hP5:=(HPd.out.set3 _).drew.drew.drew.below hb5) | (have hK5:=((Keep.refl g wd).set 3 _).drew.drew.drew.drew.trans (Keep.of hb5);have hP5:=(HPd.out.set3 _).drew.drew.drew.drew.below hb5));have HP5:=Lib.hid hP5;obtain ⟨ql,q0,q1,q2,q3,q4,qf1,qf2,qf3,qf4⟩:=hP5)
   all_goals
    go_wp2_with fail
    go_ret
    refine ⟨rfl,?_⟩
    first
     | exact ⟨hK.trans ((hK5.set _ _).set _ _),HP5.out.set34 _ _⟩
     | exact ⟨hK.trans ((hK5.set _ _).set _ _),HP5.out.set43 _ _⟩
     | exact ⟨hK.trans (hK5.set _ _),HP5.out.set4 _⟩
     | exact ⟨hK.trans ((hK5.set _ _).set _ _).drew,(HP5.out.set34 _ _).drew⟩
     | exact ⟨hK.trans ((hK5.set _ _).set _ _).drew,(HP5.out.set43 _ _).drew⟩
     | exact ⟨hK.trans (hK5.set _ _).drew,(HP5.out.set4 _).drew⟩
     | exact ⟨hK.trans ((hK5.set _ _).set _ _).drew.drew,(HP5.out.set34 _ _).drew.drew⟩
     | exact ⟨hK.trans ((hK5.set _ _).set _ _).drew.drew,(HP5.out.set43 _ _).drew.drew⟩
     | exact ⟨hK.trans (hK5.set _ _).drew.drew,(HP5.out.set4 _).drew.drew⟩
 ·have hd:decide ((l.length:Int)≤(i:Int))=false:=by simp;omega
  have hd':decide (l.length≤i)=false:=by simp;omega
  ·rw [if_neg (fun h=>h1 h.1)]
   go_enter Tryz.func147,Tryz.ntmps147
   go_wp2_with fail
   go_quiet (fail)
   go_wp2_with fail
   generalize hW:World.drewN w _=wd
   have hK:Keep g w wd:=by subst hW;exact (Keep.refl _ _).drewN _
   have hPd:Par wd g (.slice A l.length c) i d 0 0:=by subst hW;exact HPA.out.drewN _
   clear hW p0 p1 p2 p3 p4 pf1 pf2 pf3 pf4 pl
   have HPd:=Lib.hid hPd
   obtain ⟨pl,p0,p1,p2,p3,p4,pf1,pf2,pf3,pf4⟩:=hPd
   have HT:Hid (∀ u,Keep g wd u→Toks u (.slice A l.length c) l):=fun u hu=>(HC.out.keep (hK.trans hu) HPA.out.lt).now (Nat.lt_of_lt_of_le HPA.out.lt (hK.trans hu).size)
   go_region_with (go_at_call 74;refine (HP.out _ (HT.out _ ?_)).mono ?_;(first | exact (Keep.refl g wd) | exact (Keep.refl g wd).drew | exact (Keep.refl g wd).drew.drew | exact (Keep.refl g wd).drew.drew.drew | exact (Keep.refl g wd).drew.drew.drew.drew | exact ((Keep.refl g wd).set 3 _) | exact ((Keep.refl g wd).set 3 _).drew | exact ((Keep.refl g wd).set 3 _).drew.drew | exact ((Keep.refl g wd).set 3 _).drew.drew.drew | exact ((Keep.refl g wd).set 3 _).drew.drew.drew.drew);rintro e w5 ⟨rfl,hb5⟩;(first | (have hK5:=(Keep.refl g wd).trans (Keep.of hb5);have hP5:=HPd.out.below hb5) | (have hK5:=(Keep.refl g wd).drew.trans (Keep.of hb5);have hP5:=HPd.out.drew.below hb5) | (have hK5:=(Keep.refl g wd).drew.drew.trans (Keep.of hb5);have hP5:=HPd.out.drew.drew.below hb5) | (have hK5:=(Keep.refl g wd).drew.drew.drew.trans (Keep.of hb5);have hP5:=HPd.out.drew.drew.drew.below hb5) | (have hK5:=(Keep.refl g wd).drew.drew.drew.drew.trans (Keep.of hb5);have hP5:=HPd.out.drew.drew.drew.drew.below hb5) | (have hK5:=((Keep.refl g wd).set 3 _).trans (Keep.of hb5);have hP5:=(HPd.out.set3 _).below hb5) | (have hK5:=((Keep.refl g wd).set 3 _).drew.trans (Keep.of hb5);have hP5:=(HPd.out.set3 _).drew.below hb5) | (have hK5:=((Keep.refl g wd).set 3 _).drew.drew.trans (Keep.of hb5);have hP5:=(HPd.out.set3 _).drew.drew.below hb5) | (have hK5:=((Keep.refl g wd).set 3 _).drew.drew.drew.trans (Keep.of hb5);have hP5:=(HPd.out.set3 _).drew.drew.drew.below hb5) | (have hK5:=((Keep.refl g wd).set 3 _).drew.drew.drew.drew.trans (Keep.of hb5);have hP5:=(HPd.out.set3 _).drew.drew.drew.drew.below hb5));have HP5:=Lib.hid hP5;obtain ⟨ql,q0,q1,q2,q3,q4,qf1,qf2,qf3,qf4⟩:=hP5)
   all_goals
    go_wp2_with fail
    go_ret
    refine ⟨rfl,?_⟩
    first
     | exact ⟨hK.trans ((hK5.set _ _).set _ _),HP5.out.set34 _ _⟩
     | exact ⟨hK.trans ((hK5.set _ _).set _ _),HP5.out.set43 _ _⟩
     | exact ⟨hK.trans (hK5.set _ _),HP5.out.set4 _⟩
     | exact ⟨hK.trans ((hK5.set _ _).set _ _).drew,(HP5.out.set34 _ _).drew⟩
     | exact ⟨hK.trans ((hK5.set _ _).set _ _).drew,(HP5.out.set43 _ _).drew⟩
     | exact ⟨hK.trans (hK5.set _ _).drew,(HP5.out.set4 _).drew⟩
     | exact ⟨hK.trans ((hK5.set _ _).set _ _).drew.drew,(HP5.out.set34 _ _).drew.drew⟩
     | exact ⟨hK.trans ((hK5.set _ _).set _ _).drew.drew,(HP5.out.set43 _ _).drew.drew⟩
     | exact ⟨hK.trans (hK5.set _ _).drew.drew,(HP5.out.set4 _).drew.drew⟩
end Go.Proofs.YtaoeaaebafcegaaGreatDoor
namespace Go.Proofs.YtaoeaaebafcegaaGreatDoor
open Go Go.RowKit
set_option linter.unusedVariables false
def Unf (w:World) (V:Value):Prop:=∀ ad n c,V = .slice (some ad) n c→ad.block < w.heap.size∧∀ j,w.frozen? ⟨ad.block,j,none⟩=false
theorem Unf.below {w w':World} {V:Value} (h:Unf w V) (hb:Below w.heap.size w w'):Unf w' V:=fun ad n c e=>by
 obtain ⟨h1,h2⟩:=h ad n c e
 exact ⟨Nat.lt_of_lt_of_le h1 hb.size,fun j=>(hb.frozen (p:=⟨ad.block,j,none⟩) h1).trans (h2 j)⟩
theorem Unf.keep {w w':World} {V:Value} (h:Unf w V) {B g:Nat} (hf:Fresh B V) (hg:g < B) (hk:Keep g w w'):Unf w' V:=fun ad n c e=>by
 obtain ⟨h1,h2⟩:=h ad n c e
 have hb:=hf ad n c e
 refine ⟨Nat.lt_of_lt_of_le h1 hk.size,fun j=>?_⟩
 have:=h2 j
 unfold World.frozen? at this ⊢
 rw [hk.block ad.block h1 (by omega)]
 exact this
theorem Unf.own {w:World} {base:Nat} {e:TypeId} {size:Nat} {v:Value} {n:Nat} {xs:List Value} (h:w.ownsRow base e size v n xs):Unf w v:=fun ad m c hv=>by
 rcases h.2 with ⟨rfl,_⟩ | ⟨g,cap,cur,rfl,hg,hh,_⟩
 ·cases hv
 ·cases hv
  refine ⟨?_,fun j=>?_⟩
  ·rcases Nat.lt_or_ge g w.heap.size with hlt | hge
   ·exact hlt
   ·rw [Array.getElem?_eq_none hge] at hh;cases hh
  ·unfold World.frozen?
   rw [hh]
   simp
theorem Unf.nil (w:World) (n c:Nat):Unf w (.slice none n c):=fun ad m k e=>by cases e
structure NodO (w:World) (V:Value) (l:List Nod):Prop where
 nods:Nods w V l
 unf:Unf w V
theorem NodO.below {w w':World} {V:Value} {l:List Nod} (h:NodO w V l) (hb:Below w.heap.size w w'):NodO w' V l:=⟨SlN.below h.nods hb,h.unf.below hb⟩
theorem NodO.keep {w w':World} {V:Value} {l:List Nod} (h:NodO w V l) {B g:Nat} (hf:Fresh B V) (hg:g < B) (hk:Keep g w w'):NodO w' V l:=⟨SlN.keep h.nods hf hg hk,h.unf.keep hf hg hk⟩
theorem NodO.shape {w:World} {V:Value} {l:List Nod} (h:NodO w V l):∃ A c,V = .slice A l.length c∧l.length≤c:=Nods.shape h.nods
def PVal (l : List Tok) (i k : Nat) (r : Res) (w : World) (V : Value) (a e p : Int) : Prop := match r with
  | .inl (x, t) => a = t ∧ e = 0 ∧ p = 0 ∧ NodO w V x.flat
  | .inr (e2, p2) => e = e2 ∧ p = p2 ∧ 0 ≤ a ∧ a ≤ ((max i l.length + k : Nat) : Int) ∧ ∃ gl, Nods w V gl ∧ gl.length ≤ l.length - i
def PPost (l:List Tok) (g:Nat) (v:Value) (i:Nat) (d:Int) (k:Nat) (r:Res) (w:World) (e:Ending) (w':World):Prop :=
 Keep g w w'∧∃ (A:Option Addr) (n c:Nat) (a e1 p1:Int),e = .returned (.slice A n c)∧Par w' g v a d e1 p1∧Fresh w.heap.size (.slice A n c)∧PVal l i k r w' (.slice A n c) a e1 p1
theorem PVal.keep {l:List Tok} {i k:Nat} {r:Res} {w w':World} {V:Value} {a e p:Int} (h:PVal l i k r w V a e p) {B g:Nat} (hf:Fresh B V) (hg:g < B) (hk:Keep g w w'):PVal l i k r w' V a e p:=by
 unfold PVal at h ⊢
 split
 ·exact ⟨h.1,h.2.1,h.2.2.1,NodO.keep h.2.2.2 hf hg hk⟩
 ·obtain ⟨h1,h2,h3,h4,gl,h5,h6⟩:=h
  exact ⟨h1,h2,h3,h4,gl,SlN.keep h5 hf hg hk,h6⟩
theorem fresh_nil (B n c:Nat):Fresh B (.slice none n c):=fun ad m k e=>by cases e
theorem within_deep_one (l:List Tok) (hl:l.length≤100000) (g:Nat) (v:Value) (i:Nat) (w:World) (hp:Par w g v i 12 0 0) (hc:Ctx g v l w) (hi:i < l.length) (k i2:Nat) :
 Calls Tryz.prog 148 #[.pointer (some ⟨g,0,none⟩),.func (.func 136) #[.pointer (some ⟨g,0,none⟩)] #[]] w (PPost l g v i2 12 k (.inr (7,placeE l i)) w):=by
 have HW:Hid (∀ u,Par u g v i 12 0 0→Ctx g v l u→Calls Tryz.prog 147 #[.pointer (some ⟨g,0,none⟩),.int .i64 7] u fun e w'=>e = .returned (.slice none 0 0)∧Keep g u w'∧Par w' g v i 12 7 (placeE l i)):=fun u h1 h2=>by
  have:=wrong_c l hl g v i 12 7 u h1 h2
  rw [if_neg (by omega)] at this
  exact this
 have HP:=Lib.hid hp
 have HC:=Lib.hid hc
 obtain ⟨pl,p0,p1,p2,p3,p4,pf1,pf2,pf3,pf4⟩:=hp
 clear hc
 go_enter Tryz.func148,Tryz.ntmps148
 go_wp2_with (go_at_call 147;refine (HW.out _ HP.out HC.out).mono ?_;rintro e w1 ⟨rfl,hk1,hp1⟩)
 go_ret
 exact ⟨hk1,none,0,0,i,7,placeE l i,rfl,hp1,fresh_nil _ _ _,rfl,rfl,by omega,by omega,[],Sl.nil _ _ _,by simp⟩
theorem within_deep_fl (l:List Tok) (hl:l.length≤100000) (g:Nat) (v:Value) (i:Nat) (bb:Nat) (w:World) (hp:Par w g v i 12 0 0) (hc:Ctx g v l w) (hi:i < l.length) (k i2:Nat) :
 Calls Tryz.prog 148 #[.pointer (some ⟨g,0,none⟩),.func (.func 149) #[] #[.pointer (some ⟨bb,0,none⟩)]] w (PPost l g v i2 12 k (.inr (7,placeE l i)) w):=by
 have HW:Hid (∀ u,Par u g v i 12 0 0→Ctx g v l u→Calls Tryz.prog 147 #[.pointer (some ⟨g,0,none⟩),.int .i64 7] u fun e w'=>e = .returned (.slice none 0 0)∧Keep g u w'∧Par w' g v i 12 7 (placeE l i)):=fun u h1 h2=>by
  have:=wrong_c l hl g v i 12 7 u h1 h2
  rw [if_neg (by omega)] at this
  exact this
 have HP:=Lib.hid hp
 have HC:=Lib.hid hc
 obtain ⟨pl,p0,p1,p2,p3,p4,pf1,pf2,pf3,pf4⟩:=hp
 clear hc
 go_enter Tryz.func148,Tryz.ntmps148
 go_wp2_with (go_at_call 147;refine (HW.out _ HP.out HC.out).mono ?_;rintro e w1 ⟨rfl,hk1,hp1⟩)
 go_ret
 exact ⟨hk1,none,0,0,i,7,placeE l i,rfl,hp1,fresh_nil _ _ _,rfl,rfl,by omega,by omega,[],Sl.nil _ _ _,by simp⟩
theorem within_one (l:List Tok) (hl:l.length≤100000) (g:Nat) (v:Value) (i:Nat) (d:Nat) (hd:d < 12) (w:World) (hp:Par w g v i d 0 0) (hi:i < l.length) (k:Nat) (r:Res)
 (HR0:∀ u,Keep g w u→Par u g v ((i:Int)+1) ((d:Int)+1) 0 0→Calls Tryz.prog 136 #[.pointer (some ⟨g,0,none⟩)] u (PPost l g v (i+1) ((d:Int)+1) k r u)) :
 Calls Tryz.prog 148 #[.pointer (some ⟨g,0,none⟩),.func (.func 136) #[.pointer (some ⟨g,0,none⟩)] #[]] w (PPost l g v (i+1) d k r w):=by
 have HR:=Lib.hid HR0
 have HP:=Lib.hid hp
 obtain ⟨pl,p0,p1,p2,p3,p4,pf1,pf2,pf3,pf4⟩:=hp
 clear HR0
 have hd2:((d:Int) == 12)=false:=by rw [beq_eq_false_iff_ne];omega
 go_enter Tryz.func148,Tryz.ntmps148
 go_wp2_with (go_at_call 136;refine (HR.out _ (((Keep.refl g w).set _ _).set _ _) ((HP.out.set2 _).set1 _)).mono ?_;rintro e w1 ⟨hk1,A1,n1,c1,a1,e1,p1',rfl,hp1,hf1,hv1⟩;have HP1:=Lib.hid hp1;clear p0 p1 p2 p3 p4 pf1 pf2 pf3 pf4;obtain ⟨ql,q0,q1,q2,q3,q4,qf1,qf2,qf3,qf4⟩:=hp1)
 go_ret
 have hk:=(((Keep.refl g w).set 2 (.int .i64 ((d:Int)+1))).set 1 (.int .i64 ((i:Int)+1))).trans hk1
 simp only [World.size_setCell] at hf1
 refine ⟨hk.set 2 (.int .i64 (d:Int)),A1,n1,c1,a1,e1,p1',rfl,HP1.out.set2 _,hf1,hv1.keep hf1 pl ((Keep.refl g w1).set 2 _)⟩
theorem within_fl (l:List Tok) (hl:l.length≤100000) (g:Nat) (v:Value) (i:Nat) (d:Nat) (hd:d < 12) (bb:Nat) (w:World) (hp:Par w g v i d 0 0) (hi:i < l.length) (k:Nat) (r:Res)
 (HR0:∀ u,Keep g w u→Par u g v ((i:Int)+1) ((d:Int)+1) 0 0→Calls Tryz.prog 149 #[.pointer (some ⟨bb,0,none⟩)] u (PPost l g v (i+1) ((d:Int)+1) k r u)) :
 Calls Tryz.prog 148 #[.pointer (some ⟨g,0,none⟩),.func (.func 149) #[] #[.pointer (some ⟨bb,0,none⟩)]] w (PPost l g v (i+1) d k r w):=by
 have HR:=Lib.hid HR0
 have HP:=Lib.hid hp
 obtain ⟨pl,p0,p1,p2,p3,p4,pf1,pf2,pf3,pf4⟩:=hp
 clear HR0
 have hd2:((d:Int) == 12)=false:=by rw [beq_eq_false_iff_ne];omega
 go_enter Tryz.func148,Tryz.ntmps148
 go_wp2_with (go_at_call 149;refine (HR.out _ (((Keep.refl g w).set _ _).set _ _) ((HP.out.set2 _).set1 _)).mono ?_;rintro e w1 ⟨hk1,A1,n1,c1,a1,e1,p1',rfl,hp1,hf1,hv1⟩;have HP1:=Lib.hid hp1;clear p0 p1 p2 p3 p4 pf1 pf2 pf3 pf4;obtain ⟨ql,q0,q1,q2,q3,q4,qf1,qf2,qf3,qf4⟩:=hp1)
 go_ret
 have hk:=(((Keep.refl g w).set 2 (.int .i64 ((d:Int)+1))).set 1 (.int .i64 ((i:Int)+1))).trans hk1
 simp only [World.size_setCell] at hf1
 refine ⟨hk.set 2 (.int .i64 (d:Int)),A1,n1,c1,a1,e1,p1',rfl,HP1.out.set2 _,hf1,hv1.keep hf1 pl ((Keep.refl g w1).set 2 _)⟩
def flS (n:Nat):List (List UInt8):=(opsOf n).map sg
theorem al6 (w:World) (o1 o2 o3 o4 o5 o6:Obj):Below w.heap.size w ((((((w.alloc o1).alloc o2).alloc o3).alloc o4).alloc o5).alloc o6) :=
 bt (bt (bt (bt (bt (al _ _) (al _ _)) (al _ _)) (al _ _)) (al _ _)) (al _ _)
def sO (n:Nat):Obj:=.cells ((flS n).map fun t=>Value.string (str t)).toArray 9
theorem strs_made (w:World) (n:Nat) (L:Nat) (h:(flS n).length=L):Strs (w.alloc (sO n)) (.slice (some ⟨w.heap.size,0,none⟩) L L) (flS n):=by
 subst h
 have:=sl_lit w ((flS n).flatMap strCell) 9 1 (flS n).length (flS n).length (flat_length strCell 1 (fun _=>rfl) _) (Nat.le_refl _)
 have e:(flS n).flatMap strCell=(flS n).map fun t=>Value.string (str t):=by
  induction flS n with
  | nil=>rfl
  | cons x r ih=>simp only [List.flatMap_cons,List.map_cons,ih];rfl
 unfold sO
 rw [← e]
 exact this
theorem floors_c (n:Nat) (hn:n < 5) (w:World):Calls Tryz.prog 135 #[] w fun e w'=>∃ b A c,e = .returned (.slice (some ⟨b,0,none⟩) 5 5)∧b < w'.heap.size∧w'.cell? ⟨b,n,none⟩=some (.slice A (flS n).length c)∧Strs w' (.slice A (flS n).length c) (flS n)∧Below w.heap.size w w':=by
 go_enter Tryz.func135,Tryz.ntmps135
 go_wp2_with fail
 go_ret
 have h0:=strs_made w 0 1 rfl
 have h1:=strs_made (w.alloc (sO 0)) 1 1 rfl
 have h2:=strs_made ((w.alloc (sO 0)).alloc (sO 1)) 2 4 rfl
 have h3:=strs_made (((w.alloc (sO 0)).alloc (sO 1)).alloc (sO 2)) 3 2 rfl
 have h4:=strs_made ((((w.alloc (sO 0)).alloc (sO 1)).alloc (sO 2)).alloc (sO 3)) 4 3 rfl
 simp only [World.size_alloc] at h1 h2 h3 h4
 refine ⟨w.heap.size+1+1+1+1+1,?_⟩
 match n,hn with
 | 0,_=>exact ⟨some ⟨w.heap.size,0,none⟩,1,rfl,by simp only [World.size_alloc];omega,by simp [go_sem,flS,opsOf],(((((h0.below (al _ _)).below (al _ _)).below (al _ _)).below (al _ _)).below (al _ _)),al6 _ _ _ _ _ _ _⟩
 | 1,_=>exact ⟨some ⟨w.heap.size+1,0,none⟩,1,rfl,by simp only [World.size_alloc];omega,by simp [go_sem,flS,opsOf],((((h1.below (al _ _)).below (al _ _)).below (al _ _)).below (al _ _)),al6 _ _ _ _ _ _ _⟩
 | 2,_=>exact ⟨some ⟨w.heap.size+1+1,0,none⟩,4,rfl,by simp only [World.size_alloc];omega,by simp [go_sem,flS,opsOf],(((h2.below (al _ _)).below (al _ _)).below (al _ _)),al6 _ _ _ _ _ _ _⟩
 | 3,_=>exact ⟨some ⟨w.heap.size+1+1+1,0,none⟩,2,rfl,by simp only [World.size_alloc];omega,by simp [go_sem,flS,opsOf],((h3.below (al _ _)).below (al _ _)),al6 _ _ _ _ _ _ _⟩
 | 4,_=>exact ⟨some ⟨w.heap.size+1+1+1+1,0,none⟩,3,rfl,by simp only [World.size_alloc];omega,by simp [go_sem,flS,opsOf],(h4.below (al _ _)),al6 _ _ _ _ _ _ _⟩
end Go.Proofs.YtaoeaaebafcegaaGreatDoor
namespace Go.Proofs.YtaoeaaebafcegaaGreatDoor
open Go Go.RowKit
set_option linter.unusedVariables false
def sgA:Value:=.agg #[.string ⟨#[]⟩,.string ⟨#[]⟩,.string ⟨#[]⟩,.string ⟨#[45]⟩,.string ⟨#[33]⟩,.string ⟨#[43]⟩,.string ⟨#[45]⟩,.string ⟨#[42]⟩,.string ⟨#[47]⟩,.string ⟨#[37]⟩,.string ⟨#[61,61]⟩,.string ⟨#[33,61]⟩,.string ⟨#[60]⟩,.string ⟨#[60,61]⟩,.string ⟨#[38,38]⟩,.string ⟨#[124,124]⟩]
theorem signs_c (w:World):Calls Tryz.prog 123 #[] w fun e w'=>e = .returned sgA∧Below w.heap.size w w':=by
 go_enter Tryz.func123,Tryz.ntmps123
 go_wp2_with fail
 refine ret_read sgA rfl ?_ ?_
 ·exact ⟨rfl,al _ _⟩
 ·simp [results,Tryz.results123,go_sem,sgA]
theorem sgA_at (w : World) : ∀ (j : Nat), j < 16 → (Instr.index 125 sgA (.int .i64 (j : Int))).run Tryz.prog w = .ok (.string (str (sg j))) w
  | 0, _ => by kernel_rfl
  | 1, _ => by kernel_rfl
  | 2, _ => by kernel_rfl
  | 3, _ => by kernel_rfl
  | 4, _ => by kernel_rfl
  | 5, _ => by kernel_rfl
  | 6, _ => by kernel_rfl
  | 7, _ => by kernel_rfl
  | 8, _ => by kernel_rfl
  | 9, _ => by kernel_rfl
  | 10, _ => by kernel_rfl
  | 11, _ => by kernel_rfl
  | 12, _ => by kernel_rfl
  | 13, _ => by kernel_rfl
  | 14, _ => by kernel_rfl
  | 15, _ => by kernel_rfl
  | n + 16, h => by omega
theorem sg_many:∀ op:Fin 16,5≤op.val→∀ j:Fin 16,j.val < op.val→(sg j.val == sg op.val)=true→¬ (1:Int) < kidsE (j.val:Int):=by decide +kernel
theorem two_c (op:Nat) (h5:5≤op) (h15:op≤15) (w:World):Calls Tryz.prog 139 #[.string (str (sg op))] w fun e w'=>e = .returned (.int .i64 op)∧Below w.heap.size w w':=by
 have HM:Hid (∀ (j:Nat) u,Calls Tryz.prog 108 #[.int .i64 j] u fun e w'=>e = .returned (.int .i64 (kidsE j))∧u=w'):=fun j u=>many_c _ u
 have HNO:Hid (∀ j,j < op→(sg j == sg op)=true→¬ (1:Int) < kidsE (j:Int)):=fun j hj h=>sg_many ⟨op,by omega⟩ h5 ⟨j,by omega⟩ hj h
 have HK2:Hid (kidsE (op:Int)=2):=kidsE_two (by omega) (by omega)
 go_enter Tryz.func139,Tryz.ntmps139
 go_wp2_with (go_at_call 123;refine (signs_c _).mono ?_;rintro e w1 ⟨rfl,hb1⟩)
 go_loop [6] (fun k=>∃ j:Nat,j≤op∧k = .int .i64 j) (fun k=>16 - (intOf k).toNat)
 case atStart=>exact ⟨0,Nat.zero_le _,rfl⟩
 case round =>
  obtain ⟨j,hj,rfl⟩:=hrel
  have hix:=sgA_at w1 j (by omega)
  by_cases hjo:j=op
  ·subst hjo
   have hs:((str (sg j)).toList == (str (sg j)).toList)=true:=by simp
   have HMj:=HM.out j
   rw [HK2.out] at HMj
   have HMJ:=Lib.hid HMj
   clear HMj
   generalize str (sg j)=ss at hix hs
   go_wp2_with (go_at_call 108;refine (HMJ.out _).mono ?_;rintro e w' ⟨rfl,rfl⟩)
   go_ret
   exact ⟨rfl,hb1⟩
  ·cases hs:((str (sg j)).toList == (str (sg op)).toList)
   ·go_wp2_with fail
    go_round
    case rel=>exact ⟨j+1,by omega,by go_num⟩
    case measure=>simp [intOf];omega
   ·have hk:=HNO.out j (by omega) (by rw [str_toList,str_toList] at hs;exact hs)
    have HMJ:=Lib.hid (HM.out j)
    generalize kidsE (j:Int)=kk at hk HMJ
    have hkd:decide ((1:Int) < kk)=false:=by simp;omega
    go_wp2_with (go_at_call 108;refine (HMJ.out _).mono ?_;rintro e w' ⟨rfl,rfl⟩)
    go_round
    case rel=>exact ⟨j+1,by omega,by go_num⟩
    case measure=>simp [intOf];omega
end Go.Proofs.YtaoeaaebafcegaaGreatDoor
namespace Go.Proofs.YtaoeaaebafcegaaGreatDoor
open Go Go.RowKit
set_option linter.unusedVariables false
theorem below_drewN0 (w:World) (n:Nat):Below w.heap.size w (w.drewN n):=⟨rfl,rfl,rfl,Nat.le_refl _,fun _ _=>rfl⟩
theorem sgAt_c (l:List Tok) (hl:l.length≤100000) (g bb:Nat) (v:Value) (i:Nat) (d:Int) (s:List UInt8) (w:World) (hp:Par w g v i d 0 0) (hc:Ctx g v l w) (hbx:w.cell? ⟨bb,0,none⟩=some (.pointer (some ⟨g,0,none⟩))) :
 Calls Tryz.prog 138 #[.string (str s),.pointer (some ⟨bb,0,none⟩)] w fun e w'=>e = .returned (.bool (isE l i s))∧Below w.heap.size w w':=by
 have HT:Hid (∀ n,Toks (w.drewN n) v l):=fun n=>(hc.now hp.lt).below (below_drewN0 w n)
 have HI:Hid (∀ u,Toks u v l→Calls Tryz.prog 50 #[v,.int .i64 i,.string (str s)] u fun e w'=>e = .returned (.bool (isE l i s))∧w' = u):=fun u h=>(is_c l (by omega) i s v u h).mono fun _ _ ⟨h1,h2⟩=>⟨h1,h2.symm⟩
 obtain ⟨pl,p0,p1,p2,p3,p4,pf1,pf2,pf3,pf4⟩:=hp
 clear hc
 generalize isE l i s=b at HI
 go_enter Tryz.func138,Tryz.ntmps138
 go_wp2_with fail
 go_quiet (first | (go_at_call 50;exact Calls.quiet_of_same (HI.out _ (HT.out _))))
 go_wp2_with fail
 go_ret
 exact ⟨rfl,below_drewN0 _ _⟩
theorem index_c (l:List Tok) (hl:l.length≤100000) (g bb:Nat) (v:Value) (i:Nat) (d:Int) (ss:List (List UInt8)) (hss:ss.length≤1000) (h0:0 < ss.length) (V:Value) (w:World) (hV:Strs w V ss) (hp:Par w g v i d 0 0) (hc:Ctx g v l w) (hbx:w.cell? ⟨bb,0,none⟩=some (.pointer (some ⟨g,0,none⟩))) (hbl:bb < w.heap.size) :
 Calls Tryz.prog 137 #[V,.func (.func 138) #[] #[.pointer (some ⟨bb,0,none⟩)]] w fun e w'=>Below w.heap.size w w'∧∃ z:Int,e = .returned (.int .i64 z)∧((z = -1∧∀ s∈ss,isE l i s=false)∨(∃ j:Nat,z=j∧∃ h:j < ss.length,isE l i (ss[j])=true)):=by
 have HC:Hid (∀ s u,Below w.heap.size w u→Calls Tryz.prog 138 #[.string (str s),.pointer (some ⟨bb,0,none⟩)] u fun e w'=>e = .returned (.bool (isE l i s))∧Below u.heap.size u w'):=fun s u hb =>
  sgAt_c l hl g bb v i d s u (hp.below hb) (hc.belowB (hb.mono (Nat.le_of_lt hp.lt))) ((hb.cell (p:=⟨bb,0,none⟩) hbl).trans hbx)
 obtain ⟨b,off,c,rfl,hcc,hbt,hat⟩:=hV.at_ h0
 have HAT:=Lib.hid hat
 clear hat hV hp hc hbx
 go_enter Tryz.func137,Tryz.ntmps137
 go_wp2_with fail
 go_loopw [8] (fun k wr=>∃ j:Nat,j≤ss.length∧k = .int .i64 j∧Below w.heap.size w wr∧∀ j' (h:j' < ss.length),j' < j→isE l i (ss[j'])=false) (fun k _=>ss.length - (intOf k).toNat)
 case atStart=>exact ⟨0,Nat.zero_le _,rfl,Below.refl _ _,fun j' _ h=>absurd h (by omega)⟩
 case round =>
  obtain ⟨j,hj,rfl,hb,hno⟩:=hrel
  have HNO:=Lib.hid hno
  have HB:=Lib.hid hb
  clear hno
  by_cases hjl:j < ss.length
  ·have hcell:wr.cell? ⟨b,off+j,none⟩=some (.string (str (ss[j]))):=(hb.cell (p:=⟨b,off+j,none⟩) hbt).trans (HAT.out j hjl)
   have HCJ:=Lib.hid (HC.out (ss[j]) wr hb)
   have hblw:=Nat.lt_of_lt_of_le hbt hb.size
   clear hb
   have hjl2:(j:Int) < (ss.length:Int):=by omega
   cases his:isE l i (ss[j])
   ·have HF:Hid (∀ j' (h:j' < ss.length),j' < j+1→isE l i (ss[j'])=false):=fun j' h hlt=>by
     by_cases hjj:j' < j
     ·exact HNO.out j' h hjj
     ·obtain rfl:j' = j:=by omega
      exact his
    rw [his] at HCJ
    clear his
    generalize str (ss[j])=sj at hcell HCJ
    go_wp2_with (go_at_call 138;refine (HCJ.out).mono ?_;rintro e w2 ⟨rfl,hb2⟩)
    go_roundw
    case rel=>exact ⟨j+1,by omega,by go_num,bt HB.out hb2,HF.out⟩
    case measure=>simp [intOf];omega
   ·have HIS:=Lib.hid his
    rw [his] at HCJ
    clear his
    generalize str (ss[j])=sj at hcell HCJ
    go_wp2_with (go_at_call 138;refine (HCJ.out).mono ?_;rintro e w2 ⟨rfl,hb2⟩)
    go_ret
    exact ⟨bt HB.out hb2,j,rfl,.inr ⟨j,rfl,hjl,HIS.out⟩⟩
  ·have hje:j=ss.length:=by omega
   go_wp2_with fail
   go_ret
   refine ⟨HB.out,-1,rfl,.inl ⟨rfl,fun s hs=>?_⟩⟩
   obtain ⟨j',hj',rfl⟩:=List.mem_iff_getElem.1 hs
   exact HNO.out j' hj' (by omega)
theorem opsOf_pos (n:Nat) (h:n < 5):0 < (opsOf n).length:=by
 match n,h with
 | 0,_=>decide
 | 1,_=>decide
 | 2,_=>decide
 | 3,_=>decide
 | 4,_=>decide
theorem opAt_zero {n:Nat} {l:List Tok} {t:Nat} (h:∀ j (hj:j < (opsOf n).length),isE l t (sg ((opsOf n)[j]))=false):opAt n l t=0:=by
 by_cases h0:opAt n l t=0
 ·exact h0
 ·have:=opAt_some h0
  obtain ⟨j,hj,e⟩:=List.mem_iff_getElem.1 this.1
  have h2:=h j hj
  rw [e,this.2] at h2
  cases h2
theorem own_shape {w:World} {base:Nat} {e:TypeId} {size:Nat} {v:Value} {n:Nat} {xs:List Value} (h:w.ownsRow base e size v n xs):∃ A c,v = .slice A n c:=by
 rcases h.2 with ⟨rfl,rfl⟩ | ⟨g,cap,cur,rfl,_⟩
 ·exact ⟨_,_,rfl⟩
 ·exact ⟨_,_,rfl⟩
def contR (f : Nat → Res) (n : Nat) (l : List Tok) : Res → Res
  | .inl (x, t) => lpS f n l x t
  | .inr e => .inr e
theorem bdr {B:Nat} {a w:World} (h:Below B a w):Below B a w.drew:=⟨h.os,h.tape,h.output,h.size,h.block⟩
structure FInv (l:List Tok) (f:Nat→Res) (n:Nat) (R:Res) (u:World) (gx:Nat) (wr:World):Prop where
 below:Below u.heap.size u wr
 res:Blk4 wr u.heap.size (.slice none 0 0) (.int .i64 0) (.int .i64 0) (.int .i64 0)
 cur:∃ (A:Option Addr) (k c:Nat) (t e p:Int) (r:Res),Blk4 wr gx (.slice A k c) (.int .i64 t) (.int .i64 e) (.int .i64 p)∧RVal (u.heap.size+1) wr r (.slice A k c) t e p ∧
  R=contR f n l r∧(∀ x t,r = .inl (x,t)→t≤l.length∧x.flat.length≤t)∧(∀ e p,r = .inr (e,p)→1≤e)
theorem Blk4.belowB {w w':World} {B g:Nat} {a b c d:Value} (h:Blk4 w g a b c d) (hb:Below B w w') (hlt:g < B):Blk4 w' g a b c d:=by
 have hs:=hb.size
 have hl:=h.lt
 exact ⟨by omega,(hb.cell (p:=⟨g,0,none⟩) hlt).trans h.c0,(hb.cell (p:=⟨g,1,none⟩) hlt).trans h.c1,(hb.cell (p:=⟨g,2,none⟩) hlt).trans h.c2,(hb.cell (p:=⟨g,3,none⟩) hlt).trans h.c3,
  (hb.frozen (p:=⟨g,0,none⟩) hlt).trans h.f0,(hb.frozen (p:=⟨g,1,none⟩) hlt).trans h.f1,(hb.frozen (p:=⟨g,2,none⟩) hlt).trans h.f2,(hb.frozen (p:=⟨g,3,none⟩) hlt).trans h.f3⟩
theorem btB {B C:Nat} {a b c:World} (h:Below B a b) (k:Below C b c) (hle:B≤C):Below B a c:=h.trans (k.mono hle)
theorem own_two {w:World} {base:Nat} {v:Value} {nd:Nod} {x y:Ex} (h:w.ownsRow base 33 4 v (1+x.flat.length+y.flat.length) ((Nod.cells nd++x.flat.flatMap Nod.cells)++y.flat.flatMap Nod.cells)) :
 Nods w v (Ex.two nd x y).flat∧Fresh base v:=by
 refine ⟨?_,Fresh.own h⟩
 have h2:=sl_of_own h
 have e1:(Ex.two nd x y).flat.length=1+x.flat.length+y.flat.length:=by simp only [Ex.flat,List.length_cons,List.length_append];omega
 have e2:(Ex.two nd x y).flat.flatMap Nod.cells=(Nod.cells nd++x.flat.flatMap Nod.cells)++y.flat.flatMap Nod.cells:=by simp [Ex.flat]
 show SlN w v 4 _ _
 rw [e1,e2]
 exact h2
theorem rfloor_succ (l : List Tok) (hl : l.length ≤ 100000) (v : Value) (k d m n : Nat) (hd : d + k = 12) (hn : m + 1 + n = 5)
    (HF0 : ∀ (i : Nat) (u : World), Toks u v l → Calls Tryz.prog 127 #[v, .int .i64 i, .int .i64 d, .int .i64 ((n : Int) + 1)] u (RPost (flR (prR l k) l m i) u))
    (i : Nat) (u : World) (hv : Toks u v l) : Calls Tryz.prog 127 #[v, .int .i64 i, .int .i64 d, .int .i64 n] u (RPost (flR (prR l k) l (m + 1) i) u) := by
  obtain ⟨i0, hi, hz0, hz1, hz2⟩ := info_parts info_nod
  obtain ⟨Av, cv, hve, hcv⟩ := hv.shape
  subst hve
  have hfw : Fwd l (flR (prR l k) l m) := flR_fwd (prR_fwd l k) m
  have HR : Hid (flR (prR l k) l (m + 1) i = contR (flR (prR l k) l m) n l (flR (prR l k) l m i)) := by
    have e : 4 - m = n := by omega
    show _ = _
    rw [flR, e]
    cases flR (prR l k) l m i with
    | inl r => rfl
    | inr e => rfl
  have HC := Lib.hid (HF0 i _ (hv.below (al u (.cells #[.slice none 0 0, .int .i64 0, .int .i64 0, .int .i64 0] 128))))
  have hn5 : ((n : Int) == 5) = false := by rw [beq_eq_false_iff_ne]; omega
  have HGD : Hid (∀ i x t, flR (prR l k) l m i = .inl (x, t) → t ≤ l.length ∧ x.flat.length ≤ t) := fun i x t h => by
    have := hfw.good i x t h
    exact ⟨this.2.1, by omega⟩
  have HFW := Lib.hid hfw
  have HF := Lib.hid HF0
  clear hfw HF0
  have HBD : Hid (∀ i e p, flR (prR l k) l m i = .inr (e, p) → 1 ≤ e) := fun i e p h => (HFW.out.bad i e p h).1
  generalize flR (prR l k) l (m + 1) i = R at HR
  go_enter Tryz.func127, Tryz.ntmps127
  go_wp2_with (go_at_call 127; refine (HC.out).mono ?_; rintro e w1 ⟨hb1, A1, n1, c1, t1, e1, p1, rfl, hr1⟩)
  go_loopw [10, 11, 12, 13] (fun _ _ _ _ wr => FInv l (flR (prR l k) l m) n R u w1.heap.size wr) (fun _ _ _ _ wr => l.length - (intOf ((wr.cell? ⟨w1.heap.size, 1, none⟩).getD (.int .i64 0))).toNat)
  case atStart =>
    have hb := bt (al _ _) hb1
    exact ⟨bt hb (al _ _), ((Blk4.new u _ _ _ _ _).below hb1).below (al _ _), A1, n1, c1, t1, e1, p1, _, Blk4.new _ _ _ _ _ _, (hr1.below (al _ _)).mono (by rw [World.size_alloc]; omega), HR.out, fun x t h => HGD.out _ _ _ h, fun e p h => HBD.out _ _ _ h⟩
  case round =>
    rename World => wo
    obtain ⟨hb, hres, A, kk, c, t, e, p, r, hblk, hval, hR, hgd, hbd⟩ := hrel
    match r, hval, hR, hgd, hbd with
    | .inr (e2, p2), hval, hR, hgd, hbd =>
      obtain ⟨hA, rfl, rfl, rfl⟩ := hval
      have he1 := hbd _ _ rfl
      have he : (e == 0) = false := by rw [beq_eq_false_iff_ne]; omega
      cases hA
      obtain ⟨ml, m0, m1, m2, m3, mf0, mf1, mf2, mf3⟩ := hblk
      have hres2 := hres
      obtain ⟨rl, r0, r1, r2, r3, rf0, rf1, rf2, rf3⟩ := hres
      go_wp2_with fail
      refine ret_read (.agg #[.slice none 0 0, .int .i64 0, .int .i64 e, .int .i64 p]) rfl ?_ ?_
      · refine ⟨below_set4 hb (Nat.le_refl _) _ _ _ _, none, 0, 0, 0, e, p, rfl, ?_⟩
        rw [hR]
        exact ⟨rfl, rfl, rfl, rfl⟩
      · simp [results, Tryz.results127, go_sem, r0, r1, r2, r3]
    | .inl (x, t2), hval, hR, hgd, hbd =>
      obtain ⟨rfl, rfl, rfl, hnod, hfr⟩ := hval
      obtain ⟨ht2, hxl⟩ := hgd _ _ rfl
      have HV := Lib.hid hv
      have HB := Lib.hid hb
      have HRES := Lib.hid hres
      have HBLK := Lib.hid hblk
      have HN := Lib.hid hnod
      have HRR : Hid (R = lpS (flR (prR l k) l m) n l x t2) := hR
      obtain ⟨ml, m0, m1, m2, m3, mf0, mf1, mf2, mf3⟩ := hblk
      have hopl := opsOf_len n
      have HOPS : Hid (∀ w' : World, Calls Tryz.prog 134 #[.int .i64 n] w' fun e w2 => ∃ v, e = .returned v ∧ Ints w2 v (opsOf n) ∧ Below w'.heap.size w' w2) := fun w' => rops_c n (by omega) w'
      have HLT := Lib.hid ml
      have HUG : Hid (u.heap.size < w1.heap.size) := by have := hb1.size; rw [World.size_alloc] at this; show _ < _; omega
      clear hR hgd hbd hb hres hnod hv HC HR hb1 hr1 hval
      go_wp2_with fail
      clear ml m0 m1 m2 m3 mf0 mf1 mf2 mf3
      go_loopw [10, 11] (fun op kv wr2 => Below wo.heap.size wo wr2 ∧ ∃ j : Nat, j ≤ (opsOf n).length ∧ kv = .int .i64 j ∧ ((op = .int .i64 0 ∧ ∀ j' (hj : j' < (opsOf n).length), j' < j → isE l t2 (sg ((opsOf n)[j'])) = false) ∨ (op = .int .i64 (opAt n l t2) ∧ opAt n l t2 ≠ 0))) (fun _ kv _ => (opsOf n).length - (intOf kv).toNat)
      case atStart => exact ⟨Below.refl _ _, 0, Nat.zero_le _, rfl, .inl ⟨rfl, fun j' _ h => absurd h (by omega)⟩⟩
      case round =>
        obtain ⟨hb2, j, hj, rfl, hop⟩ := hrel
        have HB2 := Lib.hid hb2
        have HOP := Lib.hid hop
        clear hop
        have hx1 : wr.cell? ⟨w1.heap.size, 1, none⟩ = some (.int .i64 t2) := (hb2.cell (p := ⟨w1.heap.size, 1, none⟩) HLT.out).trans HBLK.out.c1
        have HX1 : Hid (∀ w', Below wr.heap.size wr w' → w'.cell? ⟨w1.heap.size, 1, none⟩ = some (.int .i64 t2)) := fun w' hb => (hb.cell (p := ⟨w1.heap.size, 1, none⟩) (Nat.lt_of_lt_of_le HLT.out HB2.out.size)).trans hx1
        by_cases hjl : j < (opsOf n).length
        · have ho := opsOf_in n _ (List.getElem_mem hjl)
          have HFL : Hid (∀ w' : World, Calls Tryz.prog 134 #[.int .i64 n] w' fun e w2 => ∃ b off c, e = .returned (.slice (some ⟨b, off, none⟩) (opsOf n).length c) ∧ (opsOf n).length ≤ c ∧ b < w2.heap.size ∧ w2.cell? ⟨b, off + j, none⟩ = some (.int .i64 ((opsOf n)[j] : Int)) ∧ Below w'.heap.size w' w2) := fun w' => (HOPS.out w').mono (by
            rintro e w2 ⟨v2, rfl, hi2, hb2⟩
            obtain ⟨b, off, c, rfl, hc, hlt, hat⟩ := hi2.at_ (by omega)
            exact ⟨b, off, c, rfl, hc, hlt, hat j hjl, hb2⟩)
          have HSG : Hid (∀ w' : World, Calls Tryz.prog 126 #[.int .i64 ((opsOf n)[j] : Int)] w' fun e w2 => e = .returned (.string (str (sg (opsOf n)[j]))) ∧ Below w'.heap.size w' w2) := fun w' => rsign_c _ (by omega) w'
          have HIS : Hid (∀ w' : World, Below wr.heap.size wr w' → Calls Tryz.prog 46 #[.slice Av l.length cv, .int .i64 t2, .string (str (sg (opsOf n)[j]))] w' fun e w2 => e = .returned (.bool (isE l t2 (sg (opsOf n)[j]))) ∧ w' = w2) := fun w' hb => ris_c l (by omega) t2 _ _ w' (((HV.out.below HB.out).below HB2.out).below hb)
          have HNO : Hid (isE l t2 (sg (opsOf n)[j]) = false → ∀ j' (hj : j' < (opsOf n).length), j' < j + 1 → (∀ j' (hj : j' < (opsOf n).length), j' < j → isE l t2 (sg ((opsOf n)[j'])) = false) → isE l t2 (sg ((opsOf n)[j'])) = false) := fun h j' hj' hlt h2 => by
            by_cases hjj : j' < j
            · exact h2 j' hj' hjj
            · obtain rfl : j' = j := by omega
              exact h
          have HYES : Hid (isE l t2 (sg (opsOf n)[j]) = true → opAt n l t2 = (opsOf n)[j]) := fun his => opAt_of (List.getElem_mem hjl) his
          have hjl2 := hjl
          generalize isE l t2 (sg (opsOf n)[j]) = bb at HIS HNO HYES
          generalize (opsOf n)[j] = o at HFL HSG HIS ho HYES
          generalize sg o = so at HSG HIS
          clear hb2 hx1
          go_upto_region 9 with (go_at_call 134; refine (HFL.out _).mono ?_; rintro e w3 ⟨b3, off3, c3, rfl, hc3, hl3, hcell3, hb3⟩)
          have hx3 := HX1.out _ hb3
          go_cut [45] (fun s wx => s = .bool bb ∧ Below wr.heap.size wr wx)
          case first =>
            go_region_with (first
                | (go_at_call 134; refine (HFL.out _).mono ?_; rintro e w4 ⟨b4, off4, c4, rfl, hc4, hl4, hcell4, hb4⟩; have hq4 : Below wr.heap.size wr w4 := (by first | exact bt hb3 hb4 | exact bt (bdr hb3) hb4 | exact bt (bdr (bdr hb3)) hb4); have hx4 := HX1.out _ hq4)
                | (go_at_call 126; refine (HSG.out _).mono ?_; rintro e w5 ⟨rfl, hb5⟩; have hq5 : Below wr.heap.size wr w5 := (by first | exact bt hq4 hb5 | exact bt (bdr hq4) hb5 | exact bt (bdr (bdr hq4)) hb5); have hx5 := HX1.out _ hq5)
                | (go_at_call 46; refine (HIS.out _ (by first | exact hq5 | exact bdr hq5 | exact bdr (bdr hq5))).mono ?_; rintro e w6 ⟨rfl, rfl⟩))
            all_goals
              go_wp2_with fail
              go_meet
              exact ⟨rfl, by first | exact hq5 | exact bdr hq5 | exact bdr (bdr hq5)⟩
          case rest =>
            obtain ⟨rfl, hq⟩ := hcut
            cases bb
            · go_wp2_with fail
              go_roundw
              case rel =>
                refine ⟨bt HB2.out hq, j + 1, by omega, by go_num, ?_⟩
                rcases HOP.out with ⟨h1, h2⟩ | h2
                · exact .inl ⟨h1, fun j' hj' hlt => HNO.out (by trivial) j' hj' hlt h2⟩
                · exact .inr h2
              case measure => simp [intOf]; omega
            · go_wp2_with (go_at_call 134; refine (HFL.out _).mono ?_; rintro e w7 ⟨b7, off7, c7, rfl, hc7, hl7, hcell7, hb7⟩)
              go_roundw
              case rel =>
                refine ⟨bt HB2.out (bt hq hb7), j + 1, by omega, by go_num, ?_⟩
                exact .inr ⟨by rw [HYES.out (by trivial)], by rw [HYES.out (by trivial)]; omega⟩
              case measure => simp [intOf]; omega
        · have HFL : Hid (∀ w' : World, Calls Tryz.prog 134 #[.int .i64 n] w' fun e w2 => ∃ b off c, e = .returned (.slice (some ⟨b, off, none⟩) (opsOf n).length c) ∧ (opsOf n).length ≤ c ∧ Below w'.heap.size w' w2) := fun w' => (HOPS.out w').mono (by
            rintro e w2 ⟨v2, rfl, hi2, hb2⟩
            obtain ⟨b, off, c, rfl, hc, hlt, hat⟩ := hi2.at_ (opsOf_pos n (by omega))
            exact ⟨b, off, c, rfl, hc, hb2⟩)
          have hje : j = (opsOf n).length := by omega
          clear hb2 hx1
          rcases HOP.out with ⟨rfl, hno⟩ | ⟨rfl, hne⟩
          · have HZ : Hid (R = .inl (x, t2)) := HRR.out.trans (lpS_stop (opAt_zero fun j' hj' => hno j' hj' (by omega)))
            clear hno
            go_wp2_with (go_at_call 134; refine (HFL.out _).mono ?_; rintro e w4 ⟨b4, off4, c4, rfl, hc4, hb4⟩; have hq := bt HB2.out hb4; obtain ⟨ml, m0, m1, m2, m3, mf0, mf1, mf2, mf3⟩ := HBLK.out.below hq; obtain ⟨rl, r0, r1, r2, r3, rf0, rf1, rf2, rf3⟩ := HRES.out.below hq)
            refine ret_read (.agg #[.slice A kk c, .int .i64 t2, .int .i64 0, .int .i64 0]) rfl ?_ ?_
            · refine ⟨below_set4 (bt HB.out hq) (Nat.le_refl _) _ _ _ _, A, kk, c, t2, 0, 0, rfl, ?_⟩
              rw [HZ.out]
              have hv2 : RVal (u.heap.size + 1) wo (.inl (x, t2)) (.slice A kk c) t2 0 0 := ⟨rfl, rfl, rfl, HN.out, hfr⟩
              exact ((hv2.below hq).away4 (Nat.lt_succ_self _) _ _ _ _).mono (Nat.le_succ _)
            · simp [results, Tryz.results127, go_sem, r0, r1, r2, r3]
          · have hltt := opAt_lt hne
            have hop16 := opsOf_in n _ (opAt_some hne).1
            have hone : ((opAt n l t2 : Int) == 0) = false := by rw [beq_eq_false_iff_ne]; omega
            have HY : Hid (∀ (w' : World), Toks w' (.slice Av l.length cv) l → Calls Tryz.prog 127 #[.slice Av l.length cv, .int .i64 ((t2 : Int) + 1), .int .i64 d, .int .i64 ((n : Int) + 1)] w' (RPost (flR (prR l k) l m (t2 + 1)) w')) := fun w' h => HF.out (t2 + 1) w' h
            have hfy := HFW.out.good (t2 + 1)
            have hey := HFW.out.bad (t2 + 1)
            cases hy : flR (prR l k) l m (t2 + 1) with
            | inr ep =>
              obtain ⟨ey, py⟩ := ep
              have he7 := hey _ _ hy
              have hee : (ey == 0) = false := by rw [beq_eq_false_iff_ne]; omega
              have HZ : Hid (R = .inr (ey, py)) := HRR.out.trans (lpS_err hne hy)
              rw [hy] at HY
              clear hfy hey hy he7 hne hop16
              generalize opAt n l t2 = o at hone
              go_wp2_with (first
                | (go_at_call 134; refine (HFL.out _).mono ?_; rintro e w4 ⟨b4, off4, c4, rfl, hc4, hb4⟩; have hq := bt HB2.out hb4; obtain ⟨ml, m0, m1, m2, m3, mf0, mf1, mf2, mf3⟩ := HBLK.out.below hq)
                | (go_at_call 127; refine (HY.out _ ((HV.out.below HB.out).below hq)).mono ?_; rintro e w5 ⟨hb5, A5, n5, c5, t5, e5, p5, rfl, hr5⟩; obtain ⟨hA5, rfl, rfl, rfl⟩ := hr5; cases hA5; obtain ⟨rl, r0, r1, r2, r3, rf0, rf1, rf2, rf3⟩ := HRES.out.below (bt hq hb5)))
              have hB5 := bt (bt HB.out hq) hb5
              refine ret_read (.agg #[.slice none 0 0, .int .i64 0, .int .i64 e5, .int .i64 p5]) rfl ?_ ?_
              · refine ⟨(below_set4 hB5 (Nat.le_refl _) _ _ _ _).alloc (by simp only [World.setCell, Array.size_modify]; exact hB5.size) _, none, 0, 0, 0, e5, p5, rfl, ?_⟩
                rw [HZ.out]
                exact ⟨rfl, rfl, rfl, rfl⟩
              · simp [results, Tryz.results127, go_sem, r0, r1, r2, r3, rl]
            | inl yt =>
              obtain ⟨y, t3⟩ := yt
              have hg := hfy _ _ hy
              have HZ : Hid (R = if n = 2 then .inl (.two ⟨opAt n l t2, 0, [], (tk l t2).pos⟩ x y, t3) else lpS (flR (prR l k) l m) n l (.two ⟨opAt n l t2, 0, [], (tk l t2).pos⟩ x y) t3) := HRR.out.trans (lpS_step HFW.out hne hy)
              rw [hy] at HY
              obtain ⟨hg1, hg2, hg3, hg4⟩ := hg
              clear hfy hey hy hne hop16 hg4
              obtain ⟨bt0, offt, ct, hE, hct, hbt, hatt⟩ := HV.out.at_ (by omega)
              cases hE
              have hpos0 := (hatt t2 hltt).pos
              rw [← tk_at hltt] at hpos0
              have HPOS : Hid (∀ w', Below u.heap.size u w' → w'.cell? ⟨bt0, offt + t2 * 4 + 3, none⟩ = some (.int .i64 (tk l t2).pos)) := fun w' hb => (hb.cell (p := ⟨bt0, offt + t2 * 4 + 3, none⟩) hbt).trans hpos0
              clear hatt hpos0 hct
              generalize opAt n l t2 = o at hone HZ HOP
              generalize (tk l t2).pos = ps at HPOS HZ
              have HOWN : Hid (∀ (W : World) (O : Obj), ((W.alloc O).alloc (.cells #[.int .i64 o, .int .i64 0, .string ⟨#[]⟩, .int .i64 ps] 33)).ownsRow (W.heap.size + 1) 33 4 (.slice (some ⟨W.heap.size + 1, 0, none⟩) 1 1) 1 (Nod.cells ⟨o, 0, [], ps⟩)) := fun W O => by
                have := own_nod (W.alloc O) (W.heap.size + 1) (by rw [World.size_alloc]; exact Nat.le_refl _) ⟨o, 0, [], ps⟩
                rw [World.size_alloc] at this
                exact this
              have HSZ : Hid (∀ (W : World) (O N : Obj), W.heap.size + 1 ≤ ((W.alloc O).alloc N).heap.size) := fun W O N => by rw [World.size_alloc, World.size_alloc]; omega
              have HL1 : Hid (1 + x.flat.length ≤ maxLen ∧ (1 + x.flat.length) * 40 ≤ 140737488355328) := by show _ ∧ _; unfold maxLen; constructor <;> omega
              have HL2 : Hid (1 + x.flat.length + y.flat.length ≤ maxLen ∧ (1 + x.flat.length + y.flat.length) * 40 ≤ 140737488355328) := by show _ ∧ _; unfold maxLen; constructor <;> omega
              have hug1 : ¬ (u.heap.size = w1.heap.size) := Nat.ne_of_lt HUG.out
              have hug2 : ¬ (w1.heap.size = u.heap.size) := Nat.ne_of_gt HUG.out
              cases hn2 : ((n : Int) == 2)
              · have HZ2 : Hid (R = lpS (flR (prR l k) l m) n l (.two ⟨o, 0, [], ps⟩ x y) t3) := by
                  show _ = _
                  rw [HZ.out, if_neg (by intro e; subst e; simp at hn2)]
                go_wp2_with (first
                  | (go_at_call 134; refine (HFL.out _).mono ?_; rintro e w4 ⟨b4, off4, c4, rfl, hc4, hb4⟩; have hq := bt HB2.out hb4; obtain ⟨ml, m0, m1, m2, m3, mf0, mf1, mf2, mf3⟩ := HBLK.out.below hq)
                  | (go_at_call 127; refine (HY.out _ ((HV.out.below HB.out).below hq)).mono ?_; rintro e w5 ⟨hb5, A5, n5, c5, t5, e5, p5, rfl, hr5⟩; obtain ⟨rfl, rfl, rfl, hny, hfy5⟩ := hr5; clear ml m0 m1 m2 m3 mf0 mf1 mf2 mf3; have hq5 := bt hq hb5; obtain ⟨ml, m0, m1, m2, m3, mf0, mf1, mf2, mf3⟩ := HBLK.out.below hq5; have hps := HPOS.out _ (bt HB.out hq5); have hnb : bt0 < w5.heap.size := Nat.lt_of_lt_of_le hbt (bt HB.out hq5).size)
                  | (at_builtin; refine wpl_app rfl _ _ 29 rfl (w5.heap.size + 1) 33 i0 _ 4 40 Tryz.underlying29 hi hz0 hz1 hz2 rfl (by decide) _ 1 _ rfl (HOWN.out w5 (.cells #[.slice A5 n5 c5, .int .i64 t3, .int .i64 0, .int .i64 0] 128)) _ x.flat.length _ rfl (((HN.out.below hq5).below (al _ _)).below (al _ _)) (nod_one _) HL1.out.1 HL1.out.2 (HSZ.out _ _ _) ?_; intro v6 w6 hown6 hb6; obtain ⟨A6, c6, rfl⟩ := own_shape hown6; obtain ⟨yl, y0, y1, y2, y3, yf0, yf1, yf2, yf3⟩ := (((Blk4.new w5 (.slice A5 n5 c5) (.int .i64 t3) (.int .i64 0) (.int .i64 0) 128).below (al _ _)).belowB hb6 (Nat.lt_succ_self _)); have hB6 : Below w5.heap.size w5 w6 := btB (bt (al _ _) (al _ _)) hb6 (Nat.le_succ _))
                  | (at_builtin; refine wpl_app rfl _ _ 29 rfl (w5.heap.size + 1) 33 i0 _ 4 40 Tryz.underlying29 hi hz0 hz1 hz2 rfl (by decide) _ (1 + x.flat.length) _ rfl hown6 _ y.flat.length _ rfl (hny.below hB6) (nod_one _) HL2.out.1 HL2.out.2 (Nat.succ_le_of_lt yl) ?_; intro v7 w7 hown7 hb7; obtain ⟨A7, c7, rfl⟩ := own_shape hown7; obtain ⟨zl, z0, z1, z2, z3, zf0, zf1, zf2, zf3⟩ := (Blk4.belowB ⟨yl, y0, y1, y2, y3, yf0, yf1, yf2, yf3⟩ hb7 (Nat.lt_succ_self _)); have hB7 : Below w5.heap.size w5 w7 := btB hB6 hb7 (Nat.le_succ _); clear ml m0 m1 m2 m3 mf0 mf1 mf2 mf3; obtain ⟨ml, m0, m1, m2, m3, mf0, mf1, mf2, mf3⟩ := (HBLK.out.below hq5).below hB7; obtain ⟨rl, r0, r1, r2, r3, rf0, rf1, rf2, rf3⟩ := (HRES.out.below hq5).below hB7; clear y0 y1 y2 y3 yf0 yf1 yf2 yf3))
                have hz := own_two (nd := ⟨o, 0, [], ps⟩) hown7
                have hB := bt (bt HB.out hq5) hB7
                go_roundw
                case rel =>
                  refine ⟨below_set4 hB (Nat.le_of_lt HUG.out) _ _ _ _, ?_, ?_⟩
                  · exact (((Blk4.mk rl r0 r1 r2 r3 rf0 rf1 rf2 rf3).away hug2 0 _).away hug2 1 _ |>.away hug2 2 _).away hug2 3 _
                  · refine ⟨A7, _, c7, t3, 0, 0, .inl (.two ⟨o, 0, [], ps⟩ x y, t3), (Blk4.mk ml m0 m1 m2 m3 mf0 mf1 mf2 mf3).set _ _ _ _, ⟨rfl, rfl, rfl, ?_, ?_⟩, HZ2.out, ?_, ?_⟩
                    · exact hz.1.away4 hz.2 (Nat.lt_succ_of_lt (HBLK.out.below hq5).lt) _ _ _ _
                    · exact hz.2.mono (Nat.succ_le_succ (bt HB.out hq5).size)
                    · intro x2 t2' e
                      cases e
                      refine ⟨hg2, ?_⟩
                      simp only [Ex.flat, List.length_cons, List.length_append]; omega
                    · intro e p h; cases h
                case measure =>
                  have e1 : (wo.cell? ⟨w1.heap.size, 1, none⟩) = some (.int .i64 t2) := HBLK.out.c1
                  have e2 := ((Blk4.mk ml m0 m1 m2 m3 mf0 mf1 mf2 mf3).set (.slice A7 (1 + x.flat.length + y.flat.length) c7) (.int .i64 t3) (.int .i64 0) (.int .i64 0)).c1
                  rw [e1, e2]
                  simp [intOf]; omega
              · have HZ2 : Hid (R = .inl (.two ⟨o, 0, [], ps⟩ x y, t3)) := by
                  show _ = _
                  rw [HZ.out, if_pos (by have := eq_of_beq hn2; omega)]
                go_wp2_with (first
                  | (go_at_call 134; refine (HFL.out _).mono ?_; rintro e w4 ⟨b4, off4, c4, rfl, hc4, hb4⟩; have hq := bt HB2.out hb4; obtain ⟨ml, m0, m1, m2, m3, mf0, mf1, mf2, mf3⟩ := HBLK.out.below hq)
                  | (go_at_call 127; refine (HY.out _ ((HV.out.below HB.out).below hq)).mono ?_; rintro e w5 ⟨hb5, A5, n5, c5, t5, e5, p5, rfl, hr5⟩; obtain ⟨rfl, rfl, rfl, hny, hfy5⟩ := hr5; clear ml m0 m1 m2 m3 mf0 mf1 mf2 mf3; have hq5 := bt hq hb5; obtain ⟨ml, m0, m1, m2, m3, mf0, mf1, mf2, mf3⟩ := HBLK.out.below hq5; have hps := HPOS.out _ (bt HB.out hq5); have hnb : bt0 < w5.heap.size := Nat.lt_of_lt_of_le hbt (bt HB.out hq5).size)
                  | (at_builtin; refine wpl_app rfl _ _ 29 rfl (w5.heap.size + 1) 33 i0 _ 4 40 Tryz.underlying29 hi hz0 hz1 hz2 rfl (by decide) _ 1 _ rfl (HOWN.out w5 (.cells #[.slice A5 n5 c5, .int .i64 t3, .int .i64 0, .int .i64 0] 128)) _ x.flat.length _ rfl (((HN.out.below hq5).below (al _ _)).below (al _ _)) (nod_one _) HL1.out.1 HL1.out.2 (HSZ.out _ _ _) ?_; intro v6 w6 hown6 hb6; obtain ⟨A6, c6, rfl⟩ := own_shape hown6; obtain ⟨yl, y0, y1, y2, y3, yf0, yf1, yf2, yf3⟩ := (((Blk4.new w5 (.slice A5 n5 c5) (.int .i64 t3) (.int .i64 0) (.int .i64 0) 128).below (al _ _)).belowB hb6 (Nat.lt_succ_self _)); have hB6 : Below w5.heap.size w5 w6 := btB (bt (al _ _) (al _ _)) hb6 (Nat.le_succ _))
                  | (at_builtin; refine wpl_app rfl _ _ 29 rfl (w5.heap.size + 1) 33 i0 _ 4 40 Tryz.underlying29 hi hz0 hz1 hz2 rfl (by decide) _ (1 + x.flat.length) _ rfl hown6 _ y.flat.length _ rfl (hny.below hB6) (nod_one _) HL2.out.1 HL2.out.2 (Nat.succ_le_of_lt yl) ?_; intro v7 w7 hown7 hb7; obtain ⟨A7, c7, rfl⟩ := own_shape hown7; obtain ⟨zl, z0, z1, z2, z3, zf0, zf1, zf2, zf3⟩ := (Blk4.belowB ⟨yl, y0, y1, y2, y3, yf0, yf1, yf2, yf3⟩ hb7 (Nat.lt_succ_self _)); have hB7 : Below w5.heap.size w5 w7 := btB hB6 hb7 (Nat.le_succ _); clear ml m0 m1 m2 m3 mf0 mf1 mf2 mf3; obtain ⟨ml, m0, m1, m2, m3, mf0, mf1, mf2, mf3⟩ := (HBLK.out.below hq5).below hB7; obtain ⟨rl, r0, r1, r2, r3, rf0, rf1, rf2, rf3⟩ := (HRES.out.below hq5).below hB7; clear y0 y1 y2 y3 yf0 yf1 yf2 yf3))
                have hz := own_two (nd := ⟨o, 0, [], ps⟩) hown7
                have hB := bt (bt HB.out hq5) hB7
                refine ret_read (.agg #[.slice A7 (1 + x.flat.length + y.flat.length) c7, .int .i64 t3, .int .i64 0, .int .i64 0]) rfl ?_ ?_
                · refine ⟨below_set4 (below_set4 hB (Nat.le_of_lt HUG.out) _ _ _ _) (Nat.le_refl _) _ _ _ _, A7, _, c7, t3, 0, 0, rfl, ?_⟩
                  rw [HZ2.out]
                  refine ⟨rfl, rfl, rfl, ?_, ?_⟩
                  · exact (hz.1.away4 hz.2 (Nat.lt_succ_of_lt (HBLK.out.below hq5).lt) _ _ _ _).away4 hz.2 (Nat.lt_succ_of_lt (HRES.out.below hq5).lt) _ _ _ _
                  · exact hz.2.mono (Nat.le_succ_of_le (bt HB.out hq5).size)
                · simp [results, Tryz.results127, go_sem, r0, r1, r2, r3]
theorem rprime_out (l:List Tok) (hl:l.length≤100000) (v:Value) (d:Int) (i:Nat) (u:World) (hv:Toks u v l) (hi:l.length≤i) :
 Calls Tryz.prog 133 #[v,.int .i64 i,.int .i64 d] u (RPost (.inr (6,placeE l i)) u):=by
 obtain ⟨Av,cv,hve,hcv⟩:=hv.shape
 subst hve
 have HB:Hid (∀ w',Toks w' (.slice Av l.length cv) l→Calls Tryz.prog 146 #[.slice Av l.length cv,.int .i64 i,.int .i64 6] w' fun e w2=>e = .returned (.agg #[.slice none 0 0,.int .i64 0,.int .i64 6,.int .i64 (placeE l i)])∧Below w'.heap.size w' w2):=fun w' h=>by
  have:=rbad_c l hl i 6 _ w' h
  rw [if_pos hi] at this
  exact this
 have HV:=Lib.hid hv
 have hd:decide ((l.length:Int)≤(i:Int))=true:=by simp;omega
 clear hv
 go_enter Tryz.func133,Tryz.ntmps133
 go_wp2_with (go_at_call 146;refine (HB.out _ (HV.out.below (al _ _))).mono ?_;rintro e w1 ⟨rfl,hb1⟩;obtain ⟨rl,r0,r1,r2,r3,rf0,rf1,rf2,rf3⟩:=(Blk4.new u _ _ _ _ _).below hb1)
 refine ret_read (.agg #[.slice none 0 0,.int .i64 0,.int .i64 6,.int .i64 (placeE l i)]) rfl ?_ ?_
 ·exact ⟨below_set4 (bt (al _ _) hb1) (Nat.le_refl _) _ _ _ _,none,0,0,0,6,placeE l i,rfl,rfl,rfl,rfl,rfl⟩
 ·simp [results,Tryz.results133,go_sem,r0,r1,r2,r3]
theorem isE_un {l:List Tok} {i:Nat} (h:isE l i [33] = true):isE l i [45] = false∧isE l i [40] = false:=by
 have ht:=(isE_text h).1
 constructor
 ·cases h2:isE l i [45]
  ·rfl
  ·have:=(isE_text h2).1;rw [ht] at this;cases this
 ·cases h2:isE l i [40]
  ·rfl
  ·have:=(isE_text h2).1;rw [ht] at this;cases this
theorem isE_un2 {l:List Tok} {i:Nat} (h:isE l i [45] = true):isE l i [33] = false∧isE l i [40] = false:=by
 have ht:=(isE_text h).1
 constructor
 ·cases h2:isE l i [33]
  ·rfl
  ·have:=(isE_text h2).1;rw [ht] at this;cases this
 ·cases h2:isE l i [40]
  ·rfl
  ·have:=(isE_text h2).1;rw [ht] at this;cases this
theorem rprime_deep (l : List Tok) (hl : l.length ≤ 100000) (v : Value) (i : Nat) (u : World) (hv : Toks u v l) (hi : i < l.length) (hu : (unE l i || opE l i) = true) :
    Calls Tryz.prog 133 #[v, .int .i64 i, .int .i64 12] u (RPost (.inr (7, placeE l i)) u) := by
  obtain ⟨Av, cv, hve, hcv⟩ := hv.shape
  subst hve
  have HB : Hid (∀ w', Toks w' (.slice Av l.length cv) l → Calls Tryz.prog 146 #[.slice Av l.length cv, .int .i64 i, .int .i64 7] w' fun e w2 => e = .returned (.agg #[.slice none 0 0, .int .i64 0, .int .i64 7, .int .i64 (placeE l i)]) ∧ Below w'.heap.size w' w2) := fun w' h => by
    have := rbad_c l hl i 7 _ w' h
    rw [if_neg (by omega)] at this
    exact this
  have HI : ∀ (c : UInt8) (b : Bool), isE l i [c] = b → Hid (∀ w', Toks w' (.slice Av l.length cv) l → Calls Tryz.prog 46 #[.slice Av l.length cv, .int .i64 i, .string ⟨#[c]⟩] w' fun e w2 => e = .returned (.bool b) ∧ w' = w2) := fun c b hb w' h => by
    have := ris_c l (by omega) i [c] _ w' h
    unfold IsPost at this
    rw [hb] at this
    exact this
  have HV := Lib.hid hv
  have hd : decide ((l.length : Int) ≤ (i : Int)) = false := by simp; omega
  clear hv
  have hcase : (isE l i [33] = true ∧ isE l i [40] = false) ∨ (isE l i [33] = false ∧ isE l i [45] = true ∧ isE l i [40] = false) ∨ (isE l i [33] = false ∧ isE l i [45] = false ∧ isE l i [40] = true) := by
    cases h1 : isE l i [33]
    · cases h2 : isE l i [45]
      · refine .inr (.inr ⟨rfl, rfl, ?_⟩)
        simp only [unE, opE, h1, h2, Bool.false_or] at hu
        exact hu
      · exact .inr (.inl ⟨rfl, rfl, (isE_un2 h2).2⟩)
    · exact .inl ⟨rfl, (isE_un h1).2⟩
  rcases hcase with ⟨h33, h40⟩ | ⟨h33, h45, h40⟩ | ⟨h33, h45, h40⟩
  · have H33 := HI 33 _ h33
    have H40 := HI 40 _ h40
    clear HI h33 h40 hu
    go_enter Tryz.func133, Tryz.ntmps133
    go_wp2_with (first
      | (go_at_call 146; refine (HB.out _ (HV.out.below (al _ _))).mono ?_; rintro e w1 ⟨rfl, hb1⟩; obtain ⟨rl, r0, r1, r2, r3, rf0, rf1, rf2, rf3⟩ := (Blk4.new u _ _ _ _ _).below hb1)
      | (go_at_call_of 46 (Value.string ⟨#[33]⟩); refine (H33.out _ (HV.out.below (al _ _))).mono ?_; rintro e w' ⟨rfl, rfl⟩)
      | (go_at_call_of 46 (Value.string ⟨#[40]⟩); refine (H40.out _ (HV.out.below (al _ _))).mono ?_; rintro e w' ⟨rfl, rfl⟩))
    refine ret_read (.agg #[.slice none 0 0, .int .i64 0, .int .i64 7, .int .i64 (placeE l i)]) rfl ?_ ?_
    · exact ⟨below_set4 (bt (al _ _) hb1) (Nat.le_refl _) _ _ _ _, none, 0, 0, 0, 7, placeE l i, rfl, rfl, rfl, rfl, rfl⟩
    · simp [results, Tryz.results133, go_sem, r0, r1, r2, r3]
  all_goals
    have H33 := HI 33 _ h33
    have H45 := HI 45 _ h45
    have H40 := HI 40 _ h40
    clear HI h33 h40 h45 hu
    go_enter Tryz.func133, Tryz.ntmps133
    go_wp2_with (first
      | (go_at_call 146; refine (HB.out _ (HV.out.below (al _ _))).mono ?_; rintro e w1 ⟨rfl, hb1⟩; obtain ⟨rl, r0, r1, r2, r3, rf0, rf1, rf2, rf3⟩ := (Blk4.new u _ _ _ _ _).below hb1)
      | (go_at_call_of 46 (Value.string ⟨#[33]⟩); refine (H33.out _ (HV.out.below (al _ _))).mono ?_; rintro e w' ⟨rfl, rfl⟩)
      | (go_at_call_of 46 (Value.string ⟨#[45]⟩); refine (H45.out _ (HV.out.below (al _ _))).mono ?_; rintro e w' ⟨rfl, rfl⟩)
      | (go_at_call_of 46 (Value.string ⟨#[40]⟩); refine (H40.out _ (HV.out.below (al _ _))).mono ?_; rintro e w' ⟨rfl, rfl⟩))
    refine ret_read (.agg #[.slice none 0 0, .int .i64 0, .int .i64 7, .int .i64 (placeE l i)]) rfl ?_ ?_
    · exact ⟨below_set4 (bt (al _ _) hb1) (Nat.le_refl _) _ _ _ _, none, 0, 0, 0, 7, placeE l i, rfl, rfl, rfl, rfl, rfl⟩
    · simp [results, Tryz.results133, go_sem, r0, r1, r2, r3]
end Go.Proofs.YtaoeaaebafcegaaGreatDoor
namespace Go.Proofs.YtaoeaaebafcegaaGreatDoor
open Go Go.RowKit
set_option linter.unusedVariables false
theorem nods_one (W:World) (x:Nod):Nods (W.alloc (.cells #[.int .i64 x.op,.int .i64 x.n,.string (str x.name),.int .i64 x.pos] 33)) (.slice (some ⟨W.heap.size,0,none⟩) 1 1) [x] :=
 sl_of_own (own_nod W W.heap.size (Nat.le_refl _) x)
theorem fresh_one (B b o n c:Nat) (h:B≤b):Fresh B (.slice (some ⟨b,o,none⟩) n c):=fun ad m k e=>by cases e;exact h
theorem rprime_base (l : List Tok) (hl : l.length ≤ 100000) (htx : ∀ t ∈ l, t.text.length ≤ 1000000) (v : Value) (d : Int) (i : Nat) (u : World) (hv : Toks u v l) (hi : i < l.length) (h33 : isE l i [33] = false) (h45 : isE l i [45] = false) (h40 : isE l i [40] = false) :
    Calls Tryz.prog 133 #[v, .int .i64 i, .int .i64 d] u (RPost (baseR l i) u) := by
  obtain ⟨bt0, offt, ct, rfl, hct, hbt, hatt⟩ := hv.at_ (by omega)
  have hat := hatt i hi
  have HTX : Hid ((tk l i).text.length ≤ 1000000) := by rw [tk_at hi]; exact htx _ (List.getElem_mem hi)
  rw [← tk_at hi] at hat
  have hk := hat.kind
  have hx := hat.text
  have hn := hat.n
  have hp := hat.pos
  clear hat hatt hct htx
  have HB : Hid (∀ w', Toks w' (.slice (some ⟨bt0, offt, none⟩) l.length ct) l → Calls Tryz.prog 146 #[.slice (some ⟨bt0, offt, none⟩) l.length ct, .int .i64 i, .int .i64 5] w' fun e w2 => e = .returned (.agg #[.slice none 0 0, .int .i64 0, .int .i64 5, .int .i64 (placeE l i)]) ∧ Below w'.heap.size w' w2) := fun w' h => by
    have := rbad_c l hl i 5 _ w' h
    rw [if_neg (by omega)] at this
    exact this
  have HI : ∀ (c : UInt8), isE l i [c] = false → Hid (∀ w', Toks w' (.slice (some ⟨bt0, offt, none⟩) l.length ct) l → Calls Tryz.prog 46 #[.slice (some ⟨bt0, offt, none⟩) l.length ct, .int .i64 i, .string ⟨#[c]⟩] w' fun e w2 => e = .returned (.bool false) ∧ w' = w2) := fun c hb w' h => by
    have := ris_c l (by omega) i [c] _ w' h
    unfold IsPost at this
    rw [hb] at this
    exact this
  have H33 := HI 33 h33
  have H45 := HI 45 h45
  have H40 := HI 40 h40
  have HV := Lib.hid hv
  have hd : decide ((l.length : Int) ≤ (i : Int)) = false := by simp; omega
  have HR : Hid (baseR l i = if (tk l i).kind = 2 then .inl (.leaf ⟨1, (tk l i).n, [], (tk l i).pos⟩, i + 1) else if (tk l i).kind = 1 ∧ nameE (tk l i).text = true then .inl (.leaf ⟨2, 0, (tk l i).text, (tk l i).pos⟩, i + 1) else .inr (5, placeE l i)) := rfl
  clear HI h33 h40 h45 hv
  generalize baseR l i = R at HR
  generalize tk l i = t at HTX hk hx hn hp HR
  by_cases hk2 : t.kind = 2
  · have hkk : (t.kind == 2) = true := by rw [beq_iff_eq]; exact hk2
    have HZ : Hid (R = .inl (.leaf ⟨1, t.n, [], t.pos⟩, i + 1)) := by show _ = _; rw [HR.out, if_pos hk2]
    clear HR
    go_enter Tryz.func133, Tryz.ntmps133
    go_wp2_with (first
      | (go_at_call_of 46 (Value.string ⟨#[33]⟩); refine (H33.out _ (HV.out.below (al _ _))).mono ?_; rintro e w' ⟨rfl, rfl⟩)
      | (go_at_call_of 46 (Value.string ⟨#[45]⟩); refine (H45.out _ (HV.out.below (al _ _))).mono ?_; rintro e w' ⟨rfl, rfl⟩)
      | (go_at_call_of 46 (Value.string ⟨#[40]⟩); refine (H40.out _ (HV.out.below (al _ _))).mono ?_; rintro e w' ⟨rfl, rfl⟩))
    go_region
    go_wp2_with fail
    refine ret_read (.agg #[.slice (some ⟨u.heap.size + 1, 0, none⟩) 1 1, .int .i64 ((i : Int) + 1), .int .i64 0, .int .i64 0]) rfl ?_ ?_
    · refine ⟨bdr (bt (al _ _) (al _ _)), some ⟨u.heap.size + 1, 0, none⟩, 1, 1, (i : Int) + 1, 0, 0, rfl, ?_⟩
      rw [HZ.out]
      refine ⟨rfl, rfl, rfl, ?_, fresh_one _ _ _ _ _ (Nat.le_succ _)⟩
      have := nods_one (u.alloc (.cells #[.slice (some ⟨u.heap.size + 1, 0, none⟩) 1 1, .int .i64 ((i : Int) + 1), .int .i64 0, .int .i64 0] 128)) ⟨1, t.n, [], t.pos⟩
      rw [World.size_alloc] at this
      exact this.below (bdr (Below.refl _ _))
    · simp [results, Tryz.results133, go_sem]
  · have hkk : (t.kind == 2) = false := by rw [beq_eq_false_iff_ne]; exact hk2
    by_cases hk1 : t.kind = 1
    · have hkk1 : (t.kind == 1) = true := by rw [beq_iff_eq]; exact hk1
      have HN : Hid (∀ w', Calls Tryz.prog 63 #[.string (str t.text)] w' (NamePost t.text w')) := fun w' => rname_c t.text HTX.out w'
      unfold NamePost at HN
      cases hnm : nameE t.text
      · have HZ : Hid (R = .inr (5, placeE l i)) := by show _ = _; rw [HR.out, if_neg hk2, if_neg (by rw [hnm]; simp)]
        rw [hnm] at HN
        clear HR hnm
        go_enter Tryz.func133, Tryz.ntmps133
        go_wp2_with (first
      | (go_at_call_of 46 (Value.string ⟨#[33]⟩); refine (H33.out _ (HV.out.below (al _ _))).mono ?_; rintro e w' ⟨rfl, rfl⟩)
      | (go_at_call_of 46 (Value.string ⟨#[45]⟩); refine (H45.out _ (HV.out.below (al _ _))).mono ?_; rintro e w' ⟨rfl, rfl⟩)
      | (go_at_call_of 46 (Value.string ⟨#[40]⟩); refine (H40.out _ (HV.out.below (al _ _))).mono ?_; rintro e w' ⟨rfl, rfl⟩)
          | (go_at_call 63; refine (HN.out _).mono ?_; rintro e w1 ⟨rfl, hb1⟩)
          | (go_at_call 146; refine (HB.out _ (HV.out.below (bt (al _ _) hb1))).mono ?_; rintro e w2 ⟨rfl, hb2⟩; obtain ⟨rl, r0, r1, r2, r3, rf0, rf1, rf2, rf3⟩ := ((Blk4.new u _ _ _ _ _).below hb1).below hb2))
        refine ret_read (.agg #[.slice none 0 0, .int .i64 0, .int .i64 5, .int .i64 (placeE l i)]) rfl ?_ ?_
        · refine ⟨below_set4 (bt (bt (al _ _) hb1) hb2) (Nat.le_refl _) _ _ _ _, none, 0, 0, 0, 5, placeE l i, rfl, ?_⟩
          rw [HZ.out]
          exact ⟨rfl, rfl, rfl, rfl⟩
        · simp [results, Tryz.results133, go_sem, r0, r1, r2, r3]
      · have HZ : Hid (R = .inl (.leaf ⟨2, 0, t.text, t.pos⟩, i + 1)) := by show _ = _; rw [HR.out, if_neg hk2, if_pos ⟨hk1, hnm⟩]
        rw [hnm] at HN
        clear HR hnm
        go_enter Tryz.func133, Tryz.ntmps133
        go_wp2_with (first
      | (go_at_call_of 46 (Value.string ⟨#[33]⟩); refine (H33.out _ (HV.out.below (al _ _))).mono ?_; rintro e w' ⟨rfl, rfl⟩)
      | (go_at_call_of 46 (Value.string ⟨#[45]⟩); refine (H45.out _ (HV.out.below (al _ _))).mono ?_; rintro e w' ⟨rfl, rfl⟩)
      | (go_at_call_of 46 (Value.string ⟨#[40]⟩); refine (H40.out _ (HV.out.below (al _ _))).mono ?_; rintro e w' ⟨rfl, rfl⟩)
          | (go_at_call 63; refine (HN.out _).mono ?_; rintro e w1 ⟨rfl, hb1⟩; have hB := bt (al _ _) hb1; obtain ⟨rl, r0, r1, r2, r3, rf0, rf1, rf2, rf3⟩ := ((Blk4.new u _ _ _ _ _).below hb1); replace hx := (hB.cell (p := ⟨_, _, none⟩) hbt).trans hx; replace hp := (hB.cell (p := ⟨_, _, none⟩) hbt).trans hp; replace hbt := Nat.lt_of_lt_of_le hbt hB.size))
        go_region
        go_wp2_with fail
        refine ret_read (.agg #[.slice (some ⟨w1.heap.size, 0, none⟩) 1 1, .int .i64 ((i : Int) + 1), .int .i64 0, .int .i64 0]) rfl ?_ ?_
        · have hS := below_set4 hB (Nat.le_refl _) (.slice (some ⟨w1.heap.size, 0, none⟩) 1 1) (.int .i64 ((i : Int) + 1)) (.int .i64 0) (.int .i64 0)
          refine ⟨bdr (hS.alloc hS.size _), some ⟨w1.heap.size, 0, none⟩, 1, 1, (i : Int) + 1, 0, 0, rfl, ?_⟩
          rw [HZ.out]
          refine ⟨rfl, rfl, rfl, ?_, fresh_one _ _ _ _ _ (Nat.le_of_lt rl)⟩
          have := nods_one ((((w1.setCell ⟨u.heap.size, 0, none⟩ (.slice (some ⟨w1.heap.size, 0, none⟩) 1 1)).setCell ⟨u.heap.size, 1, none⟩ (.int .i64 ((i : Int) + 1))).setCell ⟨u.heap.size, 2, none⟩ (.int .i64 0)).setCell ⟨u.heap.size, 3, none⟩ (.int .i64 0)) ⟨2, 0, t.text, t.pos⟩
          simp only [World.size_setCell] at this
          exact this.below (bdr (Below.refl _ _))
        · simp [results, Tryz.results133, go_sem, r0, r1, r2, r3, rl]
    · have hkk1 : (t.kind == 1) = false := by rw [beq_eq_false_iff_ne]; exact hk1
      have HZ : Hid (R = .inr (5, placeE l i)) := by show _ = _; rw [HR.out, if_neg hk2, if_neg (fun h => hk1 h.1)]
      clear HR
      go_enter Tryz.func133, Tryz.ntmps133
      go_wp2_with (first
      | (go_at_call_of 46 (Value.string ⟨#[33]⟩); refine (H33.out _ (HV.out.below (al _ _))).mono ?_; rintro e w' ⟨rfl, rfl⟩)
      | (go_at_call_of 46 (Value.string ⟨#[45]⟩); refine (H45.out _ (HV.out.below (al _ _))).mono ?_; rintro e w' ⟨rfl, rfl⟩)
      | (go_at_call_of 46 (Value.string ⟨#[40]⟩); refine (H40.out _ (HV.out.below (al _ _))).mono ?_; rintro e w' ⟨rfl, rfl⟩)
          | (go_at_call 146; refine (HB.out _ (HV.out.below (al _ _))).mono ?_; rintro e w2 ⟨rfl, hb2⟩; obtain ⟨rl, r0, r1, r2, r3, rf0, rf1, rf2, rf3⟩ := (Blk4.new u _ _ _ _ _).below hb2))
      refine ret_read (.agg #[.slice none 0 0, .int .i64 0, .int .i64 5, .int .i64 (placeE l i)]) rfl ?_ ?_
      · refine ⟨below_set4 (bt (al _ _) hb2) (Nat.le_refl _) _ _ _ _, none, 0, 0, 0, 5, placeE l i, rfl, ?_⟩
        rw [HZ.out]
        exact ⟨rfl, rfl, rfl, rfl⟩
      · simp [results, Tryz.results133, go_sem, r0, r1, r2, r3]
end Go.Proofs.YtaoeaaebafcegaaGreatDoor
namespace Go.Proofs.YtaoeaaebafcegaaGreatDoor
open Go Go.RowKit
set_option linter.unusedVariables false
theorem own_one {w:World} {base:Nat} {v:Value} {nd:Nod} {x:Ex} (h:w.ownsRow base 33 4 v (1+x.flat.length) (Nod.cells nd++x.flat.flatMap Nod.cells)) :
 Nods w v (Ex.one nd x).flat∧Fresh base v:=by
 refine ⟨?_,Fresh.own h⟩
 have h2:=sl_of_own h
 have e1:(Ex.one nd x).flat.length=1+x.flat.length:=by simp only [Ex.flat,List.length_cons];omega
 have e2:(Ex.one nd x).flat.flatMap Nod.cells=Nod.cells nd++x.flat.flatMap Nod.cells:=by simp [Ex.flat]
 show SlN w v 4 _ _
 rw [e1,e2]
 exact h2
theorem rprime_un (l : List Tok) (hl : l.length ≤ 100000) (v : Value) (d k : Nat) (hd12 : d < 12) (i : Nat) (u : World) (hv : Toks u v l) (hi : i < l.length) (b33 : Bool) (h33 : isE l i [33] = b33) (h45 : isE l i [45] = !b33)
    (HP : ∀ (u : World), Toks u v l → Calls Tryz.prog 133 #[v, .int .i64 ((i : Int) + 1), .int .i64 ((d : Int) + 1)] u (RPost (prR l k (i + 1)) u)) :
    Calls Tryz.prog 133 #[v, .int .i64 i, .int .i64 d] u (RPost (prR l (k + 1) i) u) := by
  obtain ⟨i0, hi0, hz0, hz1, hz2⟩ := info_parts info_nod
  obtain ⟨bt0, offt, ct, rfl, hct, hbt, hatt⟩ := hv.at_ (by omega)
  have hat := hatt i hi
  rw [← tk_at hi] at hat
  have hx := hat.text
  have hp := hat.pos
  clear hat hatt hct
  have h40 : isE l i [40] = false := by
    cases b33
    · exact (isE_un2 h45).2
    · exact (isE_un h33).2
  have HI : ∀ (c : UInt8) (b : Bool), isE l i [c] = b → Hid (∀ w', Toks w' (.slice (some ⟨bt0, offt, none⟩) l.length ct) l → Calls Tryz.prog 46 #[.slice (some ⟨bt0, offt, none⟩) l.length ct, .int .i64 i, .string ⟨#[c]⟩] w' fun e w2 => e = .returned (.bool b) ∧ w' = w2) := fun c b hb w' h => by
    have := ris_c l (by omega) i [c] _ w' h
    unfold IsPost at this
    rw [hb] at this
    exact this
  have H33 := HI 33 _ h33
  have H45 := HI 45 _ h45
  have H40 := HI 40 _ h40
  have HV := Lib.hid hv
  have HPP := Lib.hid HP
  have hd : decide ((l.length : Int) ≤ (i : Int)) = false := by simp; omega
  have hd2 : ((d : Int) == 12) = false := by rw [beq_eq_false_iff_ne]; omega
  have hun : unE l i = true := by unfold unE; rw [h33, h45]; cases b33 <;> rfl
  have hR : prR l (k + 1) i = match prR l k (i + 1) with | .inr e => .inr e | .inl (x, to2) => .inl (.one ⟨if (tk l i).text = [45] then 3 else 4, 0, [], (tk l i).pos⟩ x, to2) := by
    rw [prR, if_neg (by omega), if_pos hun]
    cases prR l k (i + 1) <;> rfl
  have htt : (tk l i).text = if b33 then [33] else [45] := by
    cases b33
    · exact (isE_text h45).1
    · exact (isE_text h33).1
  have hst : ((str (tk l i).text).toList == [45]) = !b33 := by
    rw [htt]
    rw [str_toList]
    cases b33 <;> rfl
  have hif : (if (tk l i).text = [45] then (3 : Int) else 4) = if b33 then 4 else 3 := by
    rw [htt]; cases b33 <;> rfl
  rw [hif] at hR
  have HR := Lib.hid hR
  have hfw := prR_fwd l k
  have hgd := hfw.good (i + 1)
  have hbd := hfw.bad (i + 1)
  clear HI h33 h40 h45 hv HP hif htt hR hfw hun
  generalize prR l (k + 1) i = R at HR
  generalize (tk l i).text = tx at hx hst
  generalize (tk l i).pos = ps at hp HR
  cases hy : prR l k (i + 1) with
  | inr ep =>
    obtain ⟨ey, py⟩ := ep
    have he7 := hbd _ _ hy
    have hee : (ey == 0) = false := by rw [beq_eq_false_iff_ne]; omega
    have HZ : Hid (R = .inr (ey, py)) := by have := HR.out; rw [hy] at this; exact this
    rw [hy] at HPP
    clear hgd hbd hy he7 HR
    cases b33
    all_goals
      go_enter Tryz.func133, Tryz.ntmps133
      go_wp2_with (first
        | (go_at_call_of 46 (Value.string ⟨#[33]⟩); refine (H33.out _ (HV.out.below (al _ _))).mono ?_; rintro e w' ⟨rfl, rfl⟩)
        | (go_at_call_of 46 (Value.string ⟨#[45]⟩); refine (H45.out _ (HV.out.below (al _ _))).mono ?_; rintro e w' ⟨rfl, rfl⟩)
        | (go_at_call_of 46 (Value.string ⟨#[40]⟩); refine (H40.out _ (HV.out.below (al _ _))).mono ?_; rintro e w' ⟨rfl, rfl⟩)
        | (go_at_call 133; refine (HPP.out _ (HV.out.below (al _ _))).mono ?_; rintro e w1 ⟨hb1, A1, n1, c1, t1, e1, p1, rfl, hr1⟩; obtain ⟨hA1, rfl, rfl, rfl⟩ := hr1; cases hA1; obtain ⟨rl, r0, r1, r2, r3, rf0, rf1, rf2, rf3⟩ := (Blk4.new u _ _ _ _ _).below hb1))
      refine ret_read (.agg #[.slice none 0 0, .int .i64 0, .int .i64 e1, .int .i64 p1]) rfl ?_ ?_
      · have hS := below_set4 (bt (al _ _) hb1) (Nat.le_refl _) (.slice none 0 0) (.int .i64 0) (.int .i64 e1) (.int .i64 p1)
        refine ⟨hS.alloc hS.size _, none, 0, 0, 0, e1, p1, rfl, ?_⟩
        rw [HZ.out]
        exact ⟨rfl, rfl, rfl, rfl⟩
      · simp [results, Tryz.results133, go_sem, r0, r1, r2, r3, rl]
  | inl yt =>
    obtain ⟨x, t3⟩ := yt
    have hg := hgd _ _ hy
    have HZ : Hid (R = .inl (.one ⟨if b33 then 4 else 3, 0, [], ps⟩ x, t3)) := by have := HR.out; rw [hy] at this; exact this
    rw [hy] at HPP
    have HL1 : Hid (1 + x.flat.length ≤ maxLen ∧ (1 + x.flat.length) * 40 ≤ 140737488355328) := by show _ ∧ _; unfold maxLen; constructor <;> omega
    have HSZ : Hid (∀ (W : World) (O N : Obj), W.heap.size + 1 ≤ ((W.alloc O).alloc N).heap.size) := fun W O N => by rw [World.size_alloc, World.size_alloc]; omega
    have HOWN : Hid (∀ (o : Int) (W : World) (O : Obj), ((W.alloc O).alloc (.cells #[.int .i64 o, .int .i64 0, .string ⟨#[]⟩, .int .i64 ps] 33)).ownsRow (W.heap.size + 1) 33 4 (.slice (some ⟨W.heap.size + 1, 0, none⟩) 1 1) 1 (Nod.cells ⟨o, 0, [], ps⟩)) := fun o W O => by
      have := own_nod (W.alloc O) (W.heap.size + 1) (by rw [World.size_alloc]; exact Nat.le_refl _) ⟨o, 0, [], ps⟩
      rw [World.size_alloc] at this
      exact this
    clear hgd hbd hy HR hg
    cases b33
    all_goals
      go_enter Tryz.func133, Tryz.ntmps133
      go_wp2_with (first
        | (go_at_call_of 46 (Value.string ⟨#[33]⟩); refine (H33.out _ (HV.out.below (al _ _))).mono ?_; rintro e w' ⟨rfl, rfl⟩)
        | (go_at_call_of 46 (Value.string ⟨#[45]⟩); refine (H45.out _ (HV.out.below (al _ _))).mono ?_; rintro e w' ⟨rfl, rfl⟩)
        | (go_at_call_of 46 (Value.string ⟨#[40]⟩); refine (H40.out _ (HV.out.below (al _ _))).mono ?_; rintro e w' ⟨rfl, rfl⟩)
        | (go_at_call 133; refine (HPP.out _ (HV.out.below (al _ _))).mono ?_; rintro e w1 ⟨hb1, A1, n1, c1, t1, e1, p1, rfl, hr1⟩; obtain ⟨rfl, rfl, rfl, hnx, hfx⟩ := hr1; have hB := bt (al _ _) hb1; obtain ⟨rl, r0, r1, r2, r3, rf0, rf1, rf2, rf3⟩ := (Blk4.new u _ _ _ _ _).below hb1; replace hx := (hB.cell (p := ⟨_, _, none⟩) hbt).trans hx; replace hp := (hB.cell (p := ⟨_, _, none⟩) hbt).trans hp; replace hbt := Nat.lt_of_lt_of_le hbt hB.size)
        | (at_builtin; refine wpl_app rfl _ _ 29 rfl (w1.heap.size + 1) 33 i0 _ 4 40 Tryz.underlying29 hi0 hz0 hz1 hz2 rfl (by decide) _ 1 _ rfl (HOWN.out _ w1 _) _ x.flat.length _ rfl ((hnx.below (al _ _)).below (al _ _)) (nod_one _) HL1.out.1 HL1.out.2 (HSZ.out _ _ _) ?_; intro v6 w6 hown6 hb6; obtain ⟨A6, c6, rfl⟩ := own_shape hown6; obtain ⟨yl, y0, y1, y2, y3, yf0, yf1, yf2, yf3⟩ := (((Blk4.new w1 (.slice A1 n1 c1) (.int .i64 t3) (.int .i64 0) (.int .i64 0) 128).below (al _ _)).belowB hb6 (Nat.lt_succ_self _)); have hB6 : Below w1.heap.size w1 w6 := btB (bt (al _ _) (al _ _)) hb6 (Nat.le_succ _); clear r0 r1 r2 r3 rf0 rf1 rf2 rf3; have rlo := rl; obtain ⟨rl, r0, r1, r2, r3, rf0, rf1, rf2, rf3⟩ := ((Blk4.new u _ _ _ _ _).below hb1).below hB6))
      have hz := own_one hown6
      have hS := below_set4 (below_set (o := 0) (bt hB hB6) (Nat.le_of_lt rlo) (.slice A6 (1 + x.flat.length) c6)) (Nat.le_refl _) (.slice A6 (1 + x.flat.length) c6) (.int .i64 t3) (.int .i64 0) (.int .i64 0)
      refine ret_read (.agg #[.slice A6 (1 + x.flat.length) c6, .int .i64 t3, .int .i64 0, .int .i64 0]) rfl ?_ ?_
      · refine ⟨hS, A6, _, c6, t3, 0, 0, rfl, ?_⟩
        rw [HZ.out]
        refine ⟨rfl, rfl, rfl, ?_, hz.2.mono (by omega)⟩
        exact SlN.away4 (SlN.away hz.1 hz.2 (Nat.lt_succ_self _) 0 _) hz.2 (Nat.lt_succ_of_lt rlo) _ _ _ _
      · simp [results, Tryz.results133, go_sem, r0, r1, r2, r3]
end Go.Proofs.YtaoeaaebafcegaaGreatDoor
namespace Go.Proofs.YtaoeaaebafcegaaGreatDoor
open Go Go.RowKit
set_option linter.unusedVariables false
theorem rprime_open (l : List Tok) (hl : l.length ≤ 100000) (v : Value) (d k : Nat) (hd12 : d < 12) (i : Nat) (u : World) (hv : Toks u v l) (hi : i < l.length) (h33 : isE l i [33] = false) (h45 : isE l i [45] = false) (h40 : isE l i [40] = true)
    (HF : ∀ (u : World), Toks u v l → Calls Tryz.prog 127 #[v, .int .i64 ((i : Int) + 1), .int .i64 ((d : Int) + 1), .int .i64 0] u (RPost (flR (prR l k) l 5 (i + 1)) u)) :
    Calls Tryz.prog 133 #[v, .int .i64 i, .int .i64 d] u (RPost (prR l (k + 1) i) u) := by
  obtain ⟨bt0, offt, ct, rfl, hct, hbt, hatt⟩ := hv.at_ (by omega)
  clear hatt hct
  have HI : ∀ (c : UInt8) (b : Bool), isE l i [c] = b → Hid (∀ w', Toks w' (.slice (some ⟨bt0, offt, none⟩) l.length ct) l → Calls Tryz.prog 46 #[.slice (some ⟨bt0, offt, none⟩) l.length ct, .int .i64 i, .string ⟨#[c]⟩] w' fun e w2 => e = .returned (.bool b) ∧ w' = w2) := fun c b hb w' h => by
    have := ris_c l (by omega) i [c] _ w' h
    unfold IsPost at this
    rw [hb] at this
    exact this
  have H33 := HI 33 _ h33
  have H45 := HI 45 _ h45
  have H40 := HI 40 _ h40
  have HV := Lib.hid hv
  have HPP := Lib.hid HF
  have hd : decide ((l.length : Int) ≤ (i : Int)) = false := by simp; omega
  have hd2 : ((d : Int) == 12) = false := by rw [beq_eq_false_iff_ne]; omega
  have hun : ¬ unE l i = true := by unfold unE; rw [h33, h45]; decide
  have hR : prR l (k + 1) i = match flR (prR l k) l 5 (i + 1) with | .inr e => .inr e | .inl (x, to2) => if isE l to2 [41] = true then .inl (x, to2 + 1) else .inr (if l.length ≤ to2 then 6 else 5, placeE l to2) := by
    rw [prR, if_neg (by omega), if_neg hun, if_pos (show opE l i = true from h40)]
    cases flR (prR l k) l 5 (i + 1) <;> rfl
  have HR := Lib.hid hR
  have hfw := flR_fwd (prR_fwd l k) 5
  have hgd := hfw.good (i + 1)
  have hbd := hfw.bad (i + 1)
  clear HI h33 h40 h45 hv HF hR hfw hun
  generalize prR l (k + 1) i = R at HR
  cases hy : flR (prR l k) l 5 (i + 1) with
  | inr ep =>
    obtain ⟨ey, py⟩ := ep
    have he7 := hbd _ _ hy
    have hee : (ey == 0) = false := by rw [beq_eq_false_iff_ne]; omega
    have HZ : Hid (R = .inr (ey, py)) := by have := HR.out; rw [hy] at this; exact this
    rw [hy] at HPP
    clear hgd hbd hy he7 HR
    go_enter Tryz.func133, Tryz.ntmps133
    go_wp2_with (first
        | (go_at_call_of 46 (Value.string ⟨#[33]⟩); refine (H33.out _ (HV.out.below (al _ _))).mono ?_; rintro e w' ⟨rfl, rfl⟩)
        | (go_at_call_of 46 (Value.string ⟨#[45]⟩); refine (H45.out _ (HV.out.below (al _ _))).mono ?_; rintro e w' ⟨rfl, rfl⟩)
        | (go_at_call_of 46 (Value.string ⟨#[40]⟩); refine (H40.out _ (HV.out.below (al _ _))).mono ?_; rintro e w' ⟨rfl, rfl⟩)
        | (go_at_call 127; refine (HPP.out _ (HV.out.below (al _ _))).mono ?_; rintro e w1 ⟨hb1, A1, n1, c1, t1, e1, p1, rfl, hr1⟩; obtain ⟨hA1, rfl, rfl, rfl⟩ := hr1; cases hA1; obtain ⟨rl, r0, r1, r2, r3, rf0, rf1, rf2, rf3⟩ := (Blk4.new u _ _ _ _ _).below hb1))
    refine ret_read (.agg #[.slice none 0 0, .int .i64 0, .int .i64 e1, .int .i64 p1]) rfl ?_ ?_
    · have hS := below_set4 (bt (al _ _) hb1) (Nat.le_refl _) (.slice none 0 0) (.int .i64 0) (.int .i64 e1) (.int .i64 p1)
      refine ⟨hS.alloc hS.size _, none, 0, 0, 0, e1, p1, rfl, ?_⟩
      rw [HZ.out]
      exact ⟨rfl, rfl, rfl, rfl⟩
    · simp [results, Tryz.results133, go_sem, r0, r1, r2, r3, rl]
  | inl yt =>
    obtain ⟨x, t3⟩ := yt
    have hg := hgd _ _ hy
    rw [hy] at HPP
    have HRR := HR.out
    rw [hy] at HRR
    have H41 : Hid (∀ w', Toks w' (.slice (some ⟨bt0, offt, none⟩) l.length ct) l → Calls Tryz.prog 46 #[.slice (some ⟨bt0, offt, none⟩) l.length ct, .int .i64 t3, .string ⟨#[41]⟩] w' fun e w2 => e = .returned (.bool (isE l t3 [41])) ∧ w' = w2) := fun w' h => ris_c l (by omega) t3 [41] _ w' h
    have HB : Hid (∀ w', Toks w' (.slice (some ⟨bt0, offt, none⟩) l.length ct) l → Calls Tryz.prog 146 #[.slice (some ⟨bt0, offt, none⟩) l.length ct, .int .i64 t3, .int .i64 5] w' fun e w2 => e = .returned (.agg #[.slice none 0 0, .int .i64 0, .int .i64 (if l.length ≤ t3 then 6 else 5), .int .i64 (placeE l t3)]) ∧ Below w'.heap.size w' w2) := fun w' h => rbad_c l hl t3 5 _ w' h
    have ht3 : (t3 : Int) ≤ 100000 := by omega
    cases h41 : isE l t3 [41]
    · have HZ : Hid (R = .inr (if l.length ≤ t3 then 6 else 5, placeE l t3)) := by show _ = _; rw [HRR]; show (if isE l t3 [41] = true then _ else _) = _; rw [h41]; rfl
      rw [h41] at H41
      clear hgd hbd hy HR hg HRR h41
      generalize (if l.length ≤ t3 then (6 : Int) else 5) = q at HB HZ
      go_enter Tryz.func133, Tryz.ntmps133
      go_wp2_with (first
        | (go_at_call_of 46 (Value.string ⟨#[33]⟩); refine (H33.out _ (HV.out.below (al _ _))).mono ?_; rintro e w' ⟨rfl, rfl⟩)
        | (go_at_call_of 46 (Value.string ⟨#[45]⟩); refine (H45.out _ (HV.out.below (al _ _))).mono ?_; rintro e w' ⟨rfl, rfl⟩)
        | (go_at_call_of 46 (Value.string ⟨#[40]⟩); refine (H40.out _ (HV.out.below (al _ _))).mono ?_; rintro e w' ⟨rfl, rfl⟩)
        | (go_at_call 127; refine (HPP.out _ (HV.out.below (al _ _))).mono ?_; rintro e w1 ⟨hb1, A1, n1, c1, t1, e1, p1, rfl, hr1⟩; obtain ⟨rfl, rfl, rfl, hnx, hfx⟩ := hr1; have hB := bt (al _ _) hb1)
        | (go_at_call_of 46 (Value.string ⟨#[41]⟩); refine (H41.out _ ((HV.out.below hB).below (al _ _))).mono ?_; rintro e w' ⟨rfl, rfl⟩)
        | (go_at_call 146; refine (HB.out _ ((HV.out.below hB).below (al _ _))).mono ?_; rintro e w5 ⟨rfl, hb5⟩; obtain ⟨rl, r0, r1, r2, r3, rf0, rf1, rf2, rf3⟩ := (((Blk4.new u _ _ _ _ _).below hb1).below (al _ _)).below hb5))
      refine ret_read (.agg #[.slice none 0 0, .int .i64 0, .int .i64 q, .int .i64 (placeE l t3)]) rfl ?_ ?_
      · refine ⟨below_set4 (bt (bt hB (al _ _)) hb5) (Nat.le_refl _) _ _ _ _, none, 0, 0, 0, q, placeE l t3, rfl, ?_⟩
        rw [HZ.out]
        exact ⟨rfl, rfl, rfl, rfl⟩
      · simp [results, Tryz.results133, go_sem, r0, r1, r2, r3]
    · have HZ : Hid (R = .inl (x, t3 + 1)) := by show _ = _; rw [HRR]; show (if isE l t3 [41] = true then _ else _) = _; rw [h41]; rfl
      rw [h41] at H41
      clear hgd hbd hy HR hg HRR h41
      go_enter Tryz.func133, Tryz.ntmps133
      go_wp2_with (first
        | (go_at_call_of 46 (Value.string ⟨#[33]⟩); refine (H33.out _ (HV.out.below (al _ _))).mono ?_; rintro e w' ⟨rfl, rfl⟩)
        | (go_at_call_of 46 (Value.string ⟨#[45]⟩); refine (H45.out _ (HV.out.below (al _ _))).mono ?_; rintro e w' ⟨rfl, rfl⟩)
        | (go_at_call_of 46 (Value.string ⟨#[40]⟩); refine (H40.out _ (HV.out.below (al _ _))).mono ?_; rintro e w' ⟨rfl, rfl⟩)
        | (go_at_call 127; refine (HPP.out _ (HV.out.below (al _ _))).mono ?_; rintro e w1 ⟨hb1, A1, n1, c1, t1, e1, p1, rfl, hr1⟩; obtain ⟨rfl, rfl, rfl, hnx, hfx⟩ := hr1; have hB := bt (al _ _) hb1; obtain ⟨rl, r0, r1, r2, r3, rf0, rf1, rf2, rf3⟩ := (Blk4.new u _ _ _ _ _).below hb1)
        | (go_at_call_of 46 (Value.string ⟨#[41]⟩); refine (H41.out _ ((HV.out.below hB).below (al _ _))).mono ?_; rintro e w' ⟨rfl, rfl⟩))
      have hS := below_set4 hB (Nat.le_refl _) (.slice A1 n1 c1) (.int .i64 ((t3 : Int) + 1)) (.int .i64 0) (.int .i64 0)
      refine ret_read (.agg #[.slice A1 n1 c1, .int .i64 ((t3 : Int) + 1), .int .i64 0, .int .i64 0]) rfl ?_ ?_
      · refine ⟨hS.alloc hS.size _, A1, _, c1, (t3 : Int) + 1, 0, 0, rfl, ?_⟩
        rw [HZ.out]
        rw [World.size_alloc] at hfx
        refine ⟨rfl, rfl, rfl, ?_, hfx.mono (Nat.le_succ _)⟩
        exact SlN.below (SlN.away4 hnx hfx (Nat.lt_succ_self _) _ _ _ _) (al _ _)
      · simp [results, Tryz.results133, go_sem, r0, r1, r2, r3, rl]
theorem rfloor_c (l : List Tok) (hl : l.length ≤ 100000) (v : Value) (k d : Nat) (hd : d + k = 12)
    (HP : ∀ (i : Nat) (u : World), Toks u v l → Calls Tryz.prog 133 #[v, .int .i64 i, .int .i64 d] u (RPost (prR l k i) u)) :
    ∀ (m n : Nat), m + n = 5 → ∀ (i : Nat) (u : World), Toks u v l → Calls Tryz.prog 127 #[v, .int .i64 i, .int .i64 d, .int .i64 n] u (RPost (flR (prR l k) l m i) u)
  | 0, n, hn, i, u, hv => by
    obtain rfl : n = 5 := by omega
    exact rfloor_zero l v k d hd HP i u hv
  | m + 1, n, hn, i, u, hv =>
    rfloor_succ l hl v k d m n hd hn (fun i u hu => rfloor_c l hl v k d hd HP m (n + 1) (by omega) i u hu) i u hv
theorem rprime_c (l : List Tok) (hl : l.length ≤ 100000) (htx : ∀ t ∈ l, t.text.length ≤ 1000000) (v : Value) :
    ∀ (k d : Nat), d + k = 12 → ∀ (i : Nat) (u : World), Toks u v l → Calls Tryz.prog 133 #[v, .int .i64 i, .int .i64 d] u (RPost (prR l k i) u)
  | 0, d, hd, i, u, hv => by
    obtain rfl : d = 12 := by omega
    by_cases hi : i < l.length
    · by_cases hu : (unE l i || opE l i) = true
      · have e : prR l 0 i = .inr (7, placeE l i) := by rw [prR, if_neg (by omega), if_pos hu]
        rw [e]
        exact rprime_deep l hl v i u hv hi hu
      · have e : prR l 0 i = baseR l i := by rw [prR, if_neg (by omega), if_neg hu]
        rw [e]
        simp only [unE, opE, Bool.or_eq_true, not_or, Bool.not_eq_true] at hu
        exact rprime_base l hl htx v _ i u hv hi hu.1.1 hu.1.2 hu.2
    · rw [prR_out (by omega)]
      exact rprime_out l hl v _ i u hv (by omega)
  | k + 1, d, hd, i, u, hv => by
    by_cases hi : i < l.length
    · have HP := rprime_c l hl htx v k (d + 1) (by omega)
      cases h33 : isE l i [33]
      · cases h45 : isE l i [45]
        · cases h40 : isE l i [40]
          · have e : prR l (k + 1) i = baseR l i := by rw [prR, if_neg (by omega), if_neg (by unfold unE; rw [h33, h45]; decide), if_neg (by unfold opE; rw [h40]; decide)]
            rw [e]
            exact rprime_base l hl htx v _ i u hv hi h33 h45 h40
          · exact rprime_open l hl v d k (by omega) i u hv hi h33 h45 h40 (fun u hu => rfloor_c l hl v k (d + 1) (by omega) HP 5 0 rfl (i + 1) u hu)
        · exact rprime_un l hl v d k (by omega) i u hv hi false h33 h45 (fun u hu => HP (i + 1) u hu)
      · exact rprime_un l hl v d k (by omega) i u hv hi true h33 (isE_un h33).1 (fun u hu => HP (i + 1) u hu)
    · rw [prR_out (by omega)]
      exact rprime_out l hl v _ i u hv (by omega)
theorem rparse_c (l:List Tok) (hl:l.length≤100000) (htx:∀ t∈l,t.text.length≤1000000) (v:Value) (i:Nat) (u:World) (hv:Toks u v l) :
 Calls Tryz.prog 127 #[v,.int .i64 i,.int .i64 0,.int .i64 0] u (RPost (flR (prR l 12) l 5 i) u) :=
 rfloor_c l hl v 12 0 rfl (rprime_c l hl htx v 12 0 rfl) 5 0 rfl i u hv
theorem wp_app {P:Program} {w:World} {o:Oper} {a:Act} {K:Act→World→Prop} {Q:Exit→Act→World→Prop} (s x:Operand) (t:TypeId)
 (ho:o.op = .call { callee:=.builtin .append,args:=#[s,x],argTypes:=#[t,t] })
 (base:Nat) (e:TypeId) (i:TypeInfo) (z:Value) (size bytes:Nat) (ht:P.underlying t=some (.slice e)) (hi:P.info? e=some i) (hz:i.zero=some z)
 (hsize:i.size=size) (hby:i.bytes=bytes) (hzs:z.cells.size=size) (hsz:0 < size)
 (v:Value) (n:Nat) (xs:List Value) (hs:a.eval s=v) (hown:w.ownsRow base e size v n xs)
 (u:Value) (m:Nat) (news:List Value) (hx:a.eval x=u) (hu:SlN w u size m news) (h1:∀ u∈news,u.oneCell' = true)
 (h63:n+m≤maxLen) (hbytes:(n+m)*bytes≤140737488355328) (hbase:base≤w.heap.size)
 (h:∀ v' w',w'.ownsRow base e size v' (n+m) (xs++news)→Below base w w'→K (a.put o.dst v') w'):o.wp P a w K Q:=by
 obtain ⟨hl,A,c,rfl,hc,hf⟩:=hu
 have hgo:∀ (ad:Addr),A=some ad→(∀ j x,news[j]? = some x→w.cell? (ad.add j)=some x)→o.wp P a w K Q:=fun ad hA hnews=>by
  subst hA
  refine wp_append_own w s x t ho base e i z size bytes ht hi hz hsize hby hzs hsz v n xs hs hown ad m c news hx hl hnews h1 h63 hbytes hbase ?_
  intro v' w' h2 h3 _
  exact h v' w' h2 ((Below.refl _ _).grown h3 hbase (fun g hg=>(hown.lt g hg).1))
 by_cases hm:0 < m
 ·obtain ⟨b,off,hA,hlt,hcell⟩:=hf hm
  refine hgo _ hA fun j x hj=>?_
  have:=hcell j x hj
  have e:(⟨b,off,none⟩:Addr).add j=⟨b,off+j,none⟩:=by
   unfold Addr.add
   split
   ·rename_i h0;subst h0;rfl
   ·rfl
  rw [e];exact this
 ·obtain rfl:m=0:=by omega
  obtain rfl:news = []:=List.eq_nil_of_length_eq_zero (by rw [hl];omega)
  cases A with
  | some ad=>exact hgo ad rfl (by simp)
  | none =>
    have hrun:=run_app_none (P:=P) w base t o.type e i size ht hi v n c xs hown
    unfold Oper.wp
    simp [execOp,ho,resolve,invoke,builtin,hs,hx,hrun,Result.andThen]
    refine h v w ?_ (Below.refl _ _)
    simpa using hown
theorem step_app {P:Program} {w:World} {ops:Array Oper} {o:Oper} {a:Act} {K:Act→World→Prop} {Q:Exit→Act→World→Prop} {E:Prop} (hgd:o.guard=none) (s x:Operand) (t:TypeId)
 (ho:o.op = .call { callee:=.builtin .append,args:=#[s,x],argTypes:=#[t,t] })
 (base:Nat) (e:TypeId) (i:TypeInfo) (z:Value) (size bytes:Nat) (ht:P.underlying t=some (.slice e)) (hi:P.info? e=some i) (hz:i.zero=some z)
 (hsize:i.size=size) (hby:i.bytes=bytes) (hzs:z.cells.size=size) (hsz:0 < size)
 (v:Value) (n:Nat) (xs:List Value) (hs:a.eval s=v) (hown:w.ownsRow base e size v n xs)
 (u:Value) (m:Nat) (news:List Value) (hx:a.eval x=u) (hu:SlN w u size m news) (h1:∀ u∈news,u.oneCell' = true)
 (h63:n+m≤maxLen) (hbytes:(n+m)*bytes≤140737488355328) (hbase:base≤w.heap.size)
 (h:∀ v' w',w'.ownsRow base e size v' (n+m) (xs++news)→Below base w w'→K (a.put o.dst v') w') :
 if Region.wanted o (yielded ops a.tmps)=true then Oper.wp P o a w K Q else E:=by
 have hw:Region.wanted o (yielded ops a.tmps)=true:=by simp [Region.wanted,hgd]
 rw [if_pos hw]
 exact wp_app s x t ho base e i z size bytes ht hi hz hsize hby hzs hsz v n xs hs hown u m news hx hu h1 h63 hbytes hbase h
theorem bdrN {B:Nat} {a b:World} (h:Below B a b) (n:Nat):Below B a (b.drewN n):=⟨h.os,h.tape,h.output,h.size,h.block⟩
theorem bld {B : Nat} {a b : World} (h : Below B a b := by repeat (first | exact Below.refl _ _ | assumption | refine bdrN ?_ _ | refine bdr ?_)) : Below B a b := h
theorem balloc {a b:World} (h:Below a.heap.size a b) (o:Obj):Below a.heap.size a (b.alloc o):=h.alloc h.size o
theorem bla {B : Nat} {a b : World} (h : Below B a b := by repeat (first | exact Below.refl _ _ | refine bdrN ?_ _ | refine bdr ?_ | refine balloc ?_ _)) : Below B a b := h
theorem Keep.thenB {g:Nat} {a b c:World} (h:Keep g a b) (k:Below a.heap.size b c):Keep g a c :=
 ⟨k.os.trans h.os,k.tape.trans h.tape,k.output.trans h.output,Nat.le_trans h.size k.size,fun i hi hne=>(k.block i hi).trans (h.block i hi hne)⟩
theorem Keep.cell {g:Nat} {a b:World} (h:Keep g a b) {p:Addr} (hp:p.block < a.heap.size) (hne:p.block≠g):b.cell? p=a.cell? p:=World.cell?_of_block (h.block _ hp hne)
theorem own_keep {g:Nat} {w w':World} {base:Nat} {e:TypeId} {size:Nat} {v:Value} {n:Nat} {xs:List Value} (h:w.ownsRow base e size v n xs) (hg:g < base) (hk:Keep g w w'):w'.ownsRow base e size v n xs:=by
 obtain ⟨h1,h2⟩:=h
 refine ⟨h1,?_⟩
 rcases h2 with h2 | ⟨b,cap,cur,hv,hb,hh,r⟩
 ·exact .inl h2
 ·have hlt:b < w.heap.size:=by
   rcases Nat.lt_or_ge b w.heap.size with hlt | hge
   ·exact hlt
   ·rw [Array.getElem?_eq_none hge] at hh;cases hh
  exact .inr ⟨b,cap,cur,hv,hb,(hk.block b hlt (by omega)).trans hh,r⟩
theorem one_out (l:List Tok) (hl:l.length≤100000) (g:Nat) (v:Value) (i:Nat) (d:Int) (w:World) (hp:Par w g v i d 0 0) (hc:Ctx g v l w) (hi:l.length≤i) (k:Nat) :
 Calls Tryz.prog 136 #[.pointer (some ⟨g,0,none⟩)] w (PPost l g v i d k (.inr (6,placeE l i)) w):=by
 obtain ⟨A,c,hve,hcc⟩:=(hc.now hp.lt).shape
 subst hve
 have HW:Hid (∀ u,Below w.heap.size w u→Calls Tryz.prog 147 #[.pointer (some ⟨g,0,none⟩),.int .i64 6] u fun e w'=>e = .returned (.slice none 0 0)∧Keep g u w'∧Par w' g (.slice A l.length c) i d 6 (placeE l i)):=fun u hu=>by
  have:=wrong_c l hl g (.slice A l.length c) i d 6 u (hp.below hu) (hc.belowB (hu.mono (Nat.le_of_lt hp.lt)))
  rw [if_neg (by omega)] at this
  exact this
 have hd:decide ((l.length:Int)≤(i:Int))=true:=by simp;omega
 have hd':decide (l.length≤i)=true:=by simp;omega
 obtain ⟨pl,p0,p1,p2,p3,p4,pf1,pf2,pf3,pf4⟩:=hp
 clear hc
 go_enter Tryz.func136,Tryz.ntmps136
 go_wp2_with fail
 go_quiet (fail)
 go_wp2_with (go_at_call 147;refine (HW.out _ (bdrN (balloc (Below.refl _ _) _) _)).mono ?_;rintro e w1 ⟨rfl,hk1,hp1⟩)
 go_ret
 exact ⟨(Keep.of (bdrN (balloc (Below.refl _ _) _) _)).trans hk1,none,0,0,i,6,placeE l i,rfl,hp1,fresh_nil _ _ _,rfl,rfl,by omega,by omega,[],Sl.nil _ _ _,by simp⟩
end Go.Proofs.YtaoeaaebafcegaaGreatDoor
namespace Go.Proofs.YtaoeaaebafcegaaGreatDoor
open Go Go.RowKit
set_option linter.unusedVariables false
theorem nods_at (W:World) (x:Nod) (b:Nat) (hb:b=W.heap.size):NodO (W.alloc (.cells #[.int .i64 x.op,.int .i64 x.n,.string (str x.name),.int .i64 x.pos] 33)) (.slice (some ⟨b,0,none⟩) 1 1) [x]:=by
 subst hb
 exact ⟨sl_of_own (own_nod W W.heap.size (Nat.le_refl _) x),Unf.own (own_nod W W.heap.size (Nat.le_refl _) x)⟩
theorem size_drewN (w:World) (n:Nat):(w.drewN n).heap.size=w.heap.size:=rfl
structure Bx (w:World) (g:Nat) (v:Value) (i d:Int) (t:Tok) (wd:World):Prop where
 keep:Keep g w wd
 box:wd.cell? ⟨w.heap.size,0,none⟩=some (.pointer (some ⟨g,0,none⟩))
 tok:Blk4 wd (w.heap.size+1) (.int .i64 t.kind) (.string (str t.text)) (.int .i64 t.n) (.int .i64 t.pos)
 par:Par wd g v i d 0 0
theorem bx_made {w:World} {g:Nat} {v:Value} {i d:Int} (hp:Par w g v i d 0 0) (t:Tok) (m n:Nat) :
 Bx w g v i d t ((((w.alloc (.cells #[.pointer (some ⟨g,0,none⟩)] 130)).drewN m).alloc (.cells #[.int .i64 t.kind,.string (str t.text),.int .i64 t.n,.int .i64 t.pos] 52)).drewN n):=by
 refine ⟨(((Keep.refl g w).alloc _).drewN _ |>.alloc _).drewN _,?_,?_,?_⟩
 ·have h1:=cells_new w #[.pointer (some ⟨g,0,none⟩)] 130 0 (.pointer (some ⟨g,0,none⟩)) rfl
  have hlt:w.heap.size < (w.alloc (.cells #[.pointer (some ⟨g,0,none⟩)] 130)).heap.size:=by rw [World.size_alloc];omega
  exact ((bdrN (balloc (bdrN (Below.refl _ _) m) _) n).cell (p:=⟨w.heap.size,0,none⟩) hlt).trans h1
 ·have h:=Blk4.new ((w.alloc (.cells #[.pointer (some ⟨g,0,none⟩)] 130)).drewN m) (.int .i64 t.kind) (.string (str t.text)) (.int .i64 t.n) (.int .i64 t.pos) 52
  rw [size_drewN,World.size_alloc] at h
  exact h.below (bdrN (Below.refl _ _) n)
 ·exact hp.below (bdrN (balloc (bdrN (balloc (Below.refl _ _) _) m) _) n)
theorem Bx.below {w:World} {g:Nat} {v:Value} {i d:Int} {t:Tok} {wd w':World} (h:Bx w g v i d t wd) (hb:Below wd.heap.size wd w'):Bx w g v i d t w':=by
 have hlt:=h.tok.lt
 exact ⟨h.keep.trans (Keep.of hb),(hb.cell (p:=⟨w.heap.size,0,none⟩) (by show w.heap.size < _;omega)).trans h.box,h.tok.below hb,h.par.below hb⟩
theorem one_base (l : List Tok) (hl : l.length ≤ 100000) (htx : ∀ t ∈ l, t.text.length ≤ 1000000) (g : Nat) (v : Value) (i : Nat) (d : Int) (w : World) (hp : Par w g v i d 0 0) (hc : Ctx g v l w) (hi : i < l.length) (k : Nat)
    (h33 : isE l i [33] = false) (h45 : isE l i [45] = false) (h40 : isE l i [40] = false) :
    Calls Tryz.prog 136 #[.pointer (some ⟨g, 0, none⟩)] w (PPost l g v i d k (baseR l i) w) := by
  have HTX : Hid ((tk l i).text.length ≤ 1000000) := by rw [tk_at hi]; exact htx _ (List.getElem_mem hi)
  have hct := hc.now hp.lt
  obtain ⟨bt0, offt, ct, rfl, hcc, hbt, hatt⟩ := hct.at_ (by omega)
  have hat := hatt i hi
  rw [← tk_at hi] at hat
  have hk := hat.kind
  have hx := hat.text
  have hn := hat.n
  have hps := hat.pos
  clear hat hatt hcc hct
  have HT : Hid (∀ u, Keep g w u → Toks u (.slice (some ⟨bt0, offt, none⟩) l.length ct) l) := fun u hu => (hc.keep hu hp.lt).now (Nat.lt_of_lt_of_le hp.lt hu.size)
  have HI : ∀ (c : UInt8) (b : Bool), isE l i [c] = b → Hid (∀ u, Keep g w u → Calls Tryz.prog 50 #[.slice (some ⟨bt0, offt, none⟩) l.length ct, .int .i64 i, .string ⟨#[c]⟩] u fun e w' => e = .returned (.bool b) ∧ w' = u) := fun c b hb u hu => by
    have := is_c l (by omega) i [c] _ u (HT.out u hu)
    unfold IsPost at this
    rw [hb] at this
    exact this.mono fun _ _ ⟨h1, h2⟩ => ⟨h1, h2.symm⟩
  have hd0 : decide ((l.length : Int) ≤ (i : Int)) = false := by simp; omega
  have hd1 : decide (l.length ≤ i) = false := by simp; omega
  have HPA := Lib.hid hp
  have HCX := Lib.hid hc
  have hg1 : ¬ (g = w.heap.size + 1) := by have := hp.lt; omega
  have hg2 : ¬ (w.heap.size + 1 = g) := by have := hp.lt; omega
  have hg3 : ¬ (g = w.heap.size) := by have := hp.lt; omega
  have hg4 : ¬ (w.heap.size = g) := by have := hp.lt; omega
  obtain ⟨pl, p0, p1, p2, p3, p4, pf1, pf2, pf3, pf4⟩ := hp
  have H33 := HI 33 _ h33
  have H45 := HI 45 _ h45
  have H40 := HI 40 _ h40
  have HR : Hid (baseR l i = if (tk l i).kind = 2 then .inl (.leaf ⟨1, (tk l i).n, [], (tk l i).pos⟩, i + 1) else if (tk l i).kind = 1 ∧ nameE (tk l i).text = true then .inl (.leaf ⟨2, 0, (tk l i).text, (tk l i).pos⟩, i + 1) else .inr (5, placeE l i)) := rfl
  have HWR : Hid (∀ u, Keep g w u → Par u g (.slice (some ⟨bt0, offt, none⟩) l.length ct) i d 0 0 → Calls Tryz.prog 147 #[.pointer (some ⟨g, 0, none⟩), .int .i64 5] u fun e w' => e = .returned (.slice none 0 0) ∧ Keep g u w' ∧ Par w' g (.slice (some ⟨bt0, offt, none⟩) l.length ct) i d 5 (placeE l i)) := fun u hu hpu => by
    have := wrong_c l hl g _ i d 5 u hpu (HCX.out.keep hu HPA.out.lt)
    rw [if_neg (by omega)] at this
    exact this
  clear HI h33 h40 h45 hc htx
  generalize baseR l i = R at HR
  generalize tk l i = t at HTX hk hx hn hps HR
  by_cases hk2 : t.kind = 2
  · have hkk : (t.kind == 2) = true := by rw [beq_iff_eq]; exact hk2
    have HZ : Hid (R = .inl (.leaf ⟨1, t.n, [], t.pos⟩, i + 1)) := by show _ = _; rw [HR.out, if_pos hk2]
    clear HR hk2
    go_enter Tryz.func136, Tryz.ntmps136
    go_wp2_with fail
    go_quiet (fail)
    go_wp2_with fail
    go_region
    go_wp2_with fail
    go_quiet (first | (go_at_call_of 50 (Value.string ⟨#[33]⟩); refine (H33.out _ ?_).mono ?_; (repeat (first | exact Keep.refl _ _ | refine Keep.drewN ?_ _ | refine Keep.drew ?_ | refine Keep.alloc ?_ _)); rintro e w' ⟨he, hw⟩; exact ⟨he, _, hw⟩))
    go_wp2_with fail
    generalize hwd : World.drewN (World.alloc (World.drewN (World.alloc w _) _) _) _ = wd
    have hbx : Bx w g (.slice (some ⟨bt0, offt, none⟩) l.length ct) i d t wd := by subst hwd; exact bx_made HPA.out t _ _
    clear hwd pl p0 p1 p2 p3 p4 pf1 pf2 pf3 pf4
    have HBX := Lib.hid hbx
    obtain ⟨hkp, hbox, ⟨tl, t0, t1, t2, t3, _, _, _, _⟩, ⟨pl, p0, p1, p2, p3, p4, pf1, pf2, pf3, pf4⟩⟩ := hbx
    have HKP := Lib.hid hkp
    clear hkp
    go_quiet (first | (go_at_call_of 50 (Value.string ⟨#[45]⟩); refine (H45.out _ ?_).mono ?_; (repeat (first | exact HKP.out | refine Keep.drewN ?_ _ | refine Keep.drew ?_)); rintro e w' ⟨he, hw⟩; exact ⟨he, _, hw⟩))
    go_wp2_with fail
    go_quiet (first | (go_at_call_of 50 (Value.string ⟨#[40]⟩); refine (H40.out _ ?_).mono ?_; (repeat (first | exact HKP.out | refine Keep.drewN ?_ _ | refine Keep.drew ?_)); rintro e w' ⟨he, hw⟩; exact ⟨he, _, hw⟩))
    go_wp2_with fail
    go_ret
    refine ⟨Keep.alloc (Keep.set ?_ _ _) _, _, 1, 1, (i : Int) + 1, 0, 0, rfl, Par.below (Par.set1 (i := i) ?_ _) (al _ _), fresh_one _ _ _ _ _ (by omega), ?_⟩
    · (repeat (first | exact HKP.out | refine Keep.drewN ?_ _ | refine Keep.drew ?_))
    · (repeat (first | exact HBX.out.par | refine Par.drewN ?_ _ | refine Par.drew ?_))
    · rw [HZ.out]
      exact ⟨rfl, rfl, rfl, nods_at _ ⟨1, t.n, [], t.pos⟩ _ (by simp only [World.size_setCell, size_drewN])⟩
  · have hkk : (t.kind == 2) = false := by rw [beq_eq_false_iff_ne]; exact hk2
    by_cases hk1 : t.kind = 1
    · have hkk1 : (t.kind == 1) = true := by rw [beq_iff_eq]; exact hk1
      have HN : Hid (∀ u, Keep g w u → Calls Tryz.prog 58 #[.string (str t.text)] u (NamePost t.text u)) := fun u hu => name_c t.text HTX.out u (HCX.out.keep hu HPA.out.lt).env
      unfold NamePost at HN
      cases hnm : nameE t.text
      · have HZ : Hid (R = .inr (5, placeE l i)) := by show _ = _; rw [HR.out, if_neg hk2, if_neg (by rw [hnm]; simp)]
        rw [hnm] at HN
        clear HR hnm hk2 hk1
        go_enter Tryz.func136, Tryz.ntmps136
        go_wp2_with fail
        go_quiet (fail)
        go_wp2_with fail
        go_region
        go_wp2_with fail
        go_quiet (first | (go_at_call_of 50 (Value.string ⟨#[33]⟩); refine (H33.out _ ?_).mono ?_; (repeat (first | exact Keep.refl _ _ | refine Keep.drewN ?_ _ | refine Keep.drew ?_ | refine Keep.alloc ?_ _)); rintro e w' ⟨he, hw⟩; exact ⟨he, _, hw⟩))
        go_wp2_with fail
        generalize hwd : World.drewN (World.alloc (World.drewN (World.alloc w _) _) _) _ = wd
        have hbx : Bx w g (.slice (some ⟨bt0, offt, none⟩) l.length ct) i d t wd := by subst hwd; exact bx_made HPA.out t _ _
        clear hwd pl p0 p1 p2 p3 p4 pf1 pf2 pf3 pf4
        have HBX := Lib.hid hbx
        obtain ⟨hkp, hbox, ⟨tl, t0, t1, t2, t3, _, _, _, _⟩, ⟨pl, p0, p1, p2, p3, p4, pf1, pf2, pf3, pf4⟩⟩ := hbx
        have HKP := Lib.hid hkp
        clear hkp
        go_quiet (first | (go_at_call_of 50 (Value.string ⟨#[45]⟩); refine (H45.out _ ?_).mono ?_; (repeat (first | exact HKP.out | refine Keep.drewN ?_ _ | refine Keep.drew ?_)); rintro e w' ⟨he, hw⟩; exact ⟨he, _, hw⟩))
        go_wp2_with fail
        go_quiet (first | (go_at_call_of 50 (Value.string ⟨#[40]⟩); refine (H40.out _ ?_).mono ?_; (repeat (first | exact HKP.out | refine Keep.drewN ?_ _ | refine Keep.drew ?_)); rintro e w' ⟨he, hw⟩; exact ⟨he, _, hw⟩))
        go_wp2_with (first
          | (go_at_call 58; refine (HN.out _ ?_).mono ?_; (repeat (first | exact HKP.out | refine Keep.drewN ?_ _ | refine Keep.drew ?_)); rintro e w1 ⟨rfl, hb1⟩; have hBx1 := HBX.out.below (Below.trans (bdrN (Below.refl wd.heap.size wd) _) hb1); have HBx1 := Lib.hid hBx1; clear hbox tl t0 t1 t2 t3 pl p0 p1 p2 p3 p4 pf1 pf2 pf3 pf4; obtain ⟨_, hbox, ⟨tl, t0, t1, t2, t3, _, _, _, _⟩, ⟨pl, p0, p1, p2, p3, p4, pf1, pf2, pf3, pf4⟩⟩ := hBx1)
          | (go_at_call 147; refine (HWR.out _ HBx1.out.keep HBx1.out.par).mono ?_; rintro e w2 ⟨rfl, hk2', hp2⟩))
        go_ret
        refine ⟨HBx1.out.keep.trans hk2', none, 0, 0, i, 5, placeE l i, rfl, hp2, fresh_nil _ _ _, ?_⟩
        rw [HZ.out]
        exact ⟨rfl, rfl, by omega, by omega, [], Sl.nil _ _ _, by simp⟩
      · have HZ : Hid (R = .inl (.leaf ⟨2, 0, t.text, t.pos⟩, i + 1)) := by show _ = _; rw [HR.out, if_neg hk2, if_pos ⟨hk1, hnm⟩]
        rw [hnm] at HN
        clear HR hnm hk2 hk1
        go_enter Tryz.func136, Tryz.ntmps136
        go_wp2_with fail
        go_quiet (fail)
        go_wp2_with fail
        go_region
        go_wp2_with fail
        go_quiet (first | (go_at_call_of 50 (Value.string ⟨#[33]⟩); refine (H33.out _ ?_).mono ?_; (repeat (first | exact Keep.refl _ _ | refine Keep.drewN ?_ _ | refine Keep.drew ?_ | refine Keep.alloc ?_ _)); rintro e w' ⟨he, hw⟩; exact ⟨he, _, hw⟩))
        go_wp2_with fail
        generalize hwd : World.drewN (World.alloc (World.drewN (World.alloc w _) _) _) _ = wd
        have hbx : Bx w g (.slice (some ⟨bt0, offt, none⟩) l.length ct) i d t wd := by subst hwd; exact bx_made HPA.out t _ _
        clear hwd pl p0 p1 p2 p3 p4 pf1 pf2 pf3 pf4
        have HBX := Lib.hid hbx
        obtain ⟨hkp, hbox, ⟨tl, t0, t1, t2, t3, _, _, _, _⟩, ⟨pl, p0, p1, p2, p3, p4, pf1, pf2, pf3, pf4⟩⟩ := hbx
        have HKP := Lib.hid hkp
        clear hkp
        go_quiet (first | (go_at_call_of 50 (Value.string ⟨#[45]⟩); refine (H45.out _ ?_).mono ?_; (repeat (first | exact HKP.out | refine Keep.drewN ?_ _ | refine Keep.drew ?_)); rintro e w' ⟨he, hw⟩; exact ⟨he, _, hw⟩))
        go_wp2_with fail
        go_quiet (first | (go_at_call_of 50 (Value.string ⟨#[40]⟩); refine (H40.out _ ?_).mono ?_; (repeat (first | exact HKP.out | refine Keep.drewN ?_ _ | refine Keep.drew ?_)); rintro e w' ⟨he, hw⟩; exact ⟨he, _, hw⟩))
        go_wp2_with (first
          | (go_at_call 58; refine (HN.out _ ?_).mono ?_; (repeat (first | exact HKP.out | refine Keep.drewN ?_ _ | refine Keep.drew ?_)); rintro e w1 ⟨rfl, hb1⟩; have hBx1 := HBX.out.below (Below.trans (bdrN (Below.refl wd.heap.size wd) _) hb1); have HBx1 := Lib.hid hBx1; clear hbox tl t0 t1 t2 t3 pl p0 p1 p2 p3 p4 pf1 pf2 pf3 pf4; obtain ⟨_, hbox, ⟨tl, t0, t1, t2, t3, _, _, _, _⟩, ⟨pl, p0, p1, p2, p3, p4, pf1, pf2, pf3, pf4⟩⟩ := hBx1))
        go_ret
        refine ⟨Keep.alloc (Keep.set HBx1.out.keep _ _) _, _, 1, 1, (i : Int) + 1, 0, 0, rfl, Par.below (Par.set1 HBx1.out.par _) (al _ _), fresh_one _ _ _ _ _ (Nat.le_of_lt (Nat.lt_of_succ_lt HBx1.out.tok.lt)), ?_⟩
        rw [HZ.out]
        exact ⟨rfl, rfl, rfl, nods_at _ ⟨2, 0, t.text, t.pos⟩ _ (by simp only [World.size_setCell])⟩
    · have hkk1 : (t.kind == 1) = false := by rw [beq_eq_false_iff_ne]; exact hk1
      have HZ : Hid (R = .inr (5, placeE l i)) := by show _ = _; rw [HR.out, if_neg hk2, if_neg (fun h => hk1 h.1)]
      clear HR hk2 hk1
      go_enter Tryz.func136, Tryz.ntmps136
      go_wp2_with fail
      go_quiet (fail)
      go_wp2_with fail
      go_region
      go_wp2_with fail
      go_quiet (first | (go_at_call_of 50 (Value.string ⟨#[33]⟩); refine (H33.out _ ?_).mono ?_; (repeat (first | exact Keep.refl _ _ | refine Keep.drewN ?_ _ | refine Keep.drew ?_ | refine Keep.alloc ?_ _)); rintro e w' ⟨he, hw⟩; exact ⟨he, _, hw⟩))
      go_wp2_with fail
      generalize hwd : World.drewN (World.alloc (World.drewN (World.alloc w _) _) _) _ = wd
      have hbx : Bx w g (.slice (some ⟨bt0, offt, none⟩) l.length ct) i d t wd := by subst hwd; exact bx_made HPA.out t _ _
      clear hwd pl p0 p1 p2 p3 p4 pf1 pf2 pf3 pf4
      have HBX := Lib.hid hbx
      obtain ⟨hkp, hbox, ⟨tl, t0, t1, t2, t3, _, _, _, _⟩, ⟨pl, p0, p1, p2, p3, p4, pf1, pf2, pf3, pf4⟩⟩ := hbx
      have HKP := Lib.hid hkp
      clear hkp
      go_quiet (first | (go_at_call_of 50 (Value.string ⟨#[45]⟩); refine (H45.out _ ?_).mono ?_; (repeat (first | exact HKP.out | refine Keep.drewN ?_ _ | refine Keep.drew ?_)); rintro e w' ⟨he, hw⟩; exact ⟨he, _, hw⟩))
      go_wp2_with fail
      go_quiet (first | (go_at_call_of 50 (Value.string ⟨#[40]⟩); refine (H40.out _ ?_).mono ?_; (repeat (first | exact HKP.out | refine Keep.drewN ?_ _ | refine Keep.drew ?_)); rintro e w' ⟨he, hw⟩; exact ⟨he, _, hw⟩))
      go_wp2_with (go_at_call 147; refine (HWR.out _ ?_ ?_).mono ?_; (repeat (first | exact HKP.out | refine Keep.drewN ?_ _ | refine Keep.drew ?_)); (repeat (first | exact HBX.out.par | refine Par.drewN ?_ _ | refine Par.drew ?_)); rintro e w2 ⟨rfl, hk2', hp2⟩)
      go_ret
      refine ⟨Keep.trans ?_ hk2', none, 0, 0, i, 5, placeE l i, rfl, hp2, fresh_nil _ _ _, ?_⟩
      · (repeat (first | exact HKP.out | refine Keep.drewN ?_ _ | refine Keep.drew ?_))
      · rw [HZ.out]
        exact ⟨rfl, rfl, by omega, by omega, [], Sl.nil _ _ _, by simp⟩
structure Bt (w:World) (g:Nat) (t:Tok) (wd:World):Prop where
 box:wd.cell? ⟨w.heap.size,0,none⟩=some (.pointer (some ⟨g,0,none⟩))
 tok:Blk4 wd (w.heap.size+1) (.int .i64 t.kind) (.string (str t.text)) (.int .i64 t.n) (.int .i64 t.pos)
theorem Bt.below {w:World} {g:Nat} {t:Tok} {wd w':World} (h:Bt w g t wd) (hb:Below wd.heap.size wd w'):Bt w g t w':=by
 have hlt:=h.tok.lt
 exact ⟨(hb.cell (p:=⟨w.heap.size,0,none⟩) (by show w.heap.size < _;omega)).trans h.box,h.tok.below hb⟩
theorem Blk4.keep {w w':World} {g b:Nat} {x y z q:Value} (h:Blk4 w b x y z q) (hk:Keep g w w') (hne:b≠g):Blk4 w' b x y z q:=by
 have hlt:=h.lt
 have hs:=hk.size
 have hf:∀ o,w'.frozen? ⟨b,o,none⟩=w.frozen? ⟨b,o,none⟩:=fun o=>World.frozen?_of_block (hk.block b hlt hne)
 exact ⟨by omega,(hk.cell (p:=⟨b,0,none⟩) hlt hne).trans h.c0,(hk.cell (p:=⟨b,1,none⟩) hlt hne).trans h.c1,(hk.cell (p:=⟨b,2,none⟩) hlt hne).trans h.c2,(hk.cell (p:=⟨b,3,none⟩) hlt hne).trans h.c3,
  (hf 0).trans h.f0,(hf 1).trans h.f1,(hf 2).trans h.f2,(hf 3).trans h.f3⟩
theorem Bt.keep {w:World} {g:Nat} {t:Tok} {wd w':World} (h:Bt w g t wd) (hk:Keep g wd w') (hg:g < w.heap.size):Bt w g t w':=by
 have hlt:=h.tok.lt
 exact ⟨(hk.cell (p:=⟨w.heap.size,0,none⟩) (by show w.heap.size < _;omega) (by show w.heap.size≠g;omega)).trans h.box,h.tok.keep hk (by omega)⟩
theorem Bt.belowB {w:World} {g:Nat} {t:Tok} {wd w':World} (h:Bt w g t wd) (hb:Below (w.heap.size+2) wd w'):Bt w g t w' :=
 ⟨(hb.cell (p:=⟨w.heap.size,0,none⟩) (by show w.heap.size < _;omega)).trans h.box,h.tok.belowB hb (by omega)⟩
theorem own_at (W:World) (x:Nod) (b base:Nat) (hb:b=W.heap.size) (hbase:base≤W.heap.size):(W.alloc (.cells #[.int .i64 x.op,.int .i64 x.n,.string (str x.name),.int .i64 x.pos] 33)).ownsRow base 33 4 (.slice (some ⟨b,0,none⟩) 1 1) 1 (Nod.cells x):=by
 subst hb
 have:=own_nod W base hbase x
 simpa using this
theorem own_cons {w:World} {base:Nat} {v:Value} {nd:Nod} {nl:List Nod} (h:w.ownsRow base 33 4 v (1+nl.length) (Nod.cells nd++nl.flatMap Nod.cells)) :
 NodO w v (nd :: nl)∧Fresh base v:=by
 refine ⟨⟨?_,Unf.own h⟩,Fresh.own h⟩
 have h2:=sl_of_own h
 have e1:(nd :: nl).length=1+nl.length:=by simp only [List.length_cons];omega
 have e2:(nd :: nl).flatMap Nod.cells=Nod.cells nd++nl.flatMap Nod.cells:=by simp
 show SlN w v 4 _ _
 rw [e1,e2]
 exact h2
theorem PVal.nods {l:List Tok} {i k:Nat} {r:Res} {w:World} {V:Value} {a e p:Int} (h:PVal l i k r w V a e p) (hg:∀ x t,r = .inl (x,t)→x.flat.length≤l.length - i) :
 ∃ nl:List Nod,Nods w V nl∧nl.length≤l.length - i∧∀ x t,r = .inl (x,t)→nl=x.flat:=by
 unfold PVal at h
 split at h
 ·rename_i x t
  exact ⟨_,h.2.2.2.nods,hg _ _ rfl,fun x2 t2 e=>by cases e;rfl⟩
 ·obtain ⟨_,_,_,_,gl,h5,h6⟩:=h
  exact ⟨gl,h5,h6,fun x2 t2 e=>by cases e⟩
def unR (nd : Nod) : Res → Res
  | .inl (x, t) => .inl (.one nd x, t)
  | .inr e => .inr e
theorem un_post {l:List Tok} {i k0 k:Nat} {nd:Nod} {r:Res} {w5 w6:World} {V V6:Value} {a e p:Int} (hi:i < l.length) (hk:k0≤k) (h:PVal l (i+1) k0 r w5 V a e p) {nl:List Nod} (hnl:nl.length≤l.length - (i+1))
 (he:∀ x t,r = .inl (x,t)→nl=x.flat) (h6:NodO w6 V6 (nd :: nl)):PVal l i k (unR nd r) w6 V6 a e p:=by
 cases r with
 | inl q =>
   obtain ⟨x,t⟩:=q
   have hx:=he x t rfl
   subst hx
   exact ⟨h.1,h.2.1,h.2.2.1,h6⟩
 | inr q =>
   obtain ⟨h1,h2,h3,h4,_⟩:=h
   exact ⟨h1,h2,h3,by omega,_,h6.nods,by simp only [List.length_cons];omega⟩
theorem one_un (l:List Tok) (hl:l.length≤100000) (g:Nat) (v:Value) (i:Nat) (d:Int) (w:World) (hp:Par w g v i d 0 0) (hc:Ctx g v l w) (hi:i < l.length) (k k0:Nat) (hk0:k0≤k) (b33:Bool) (h33:isE l i [33] = b33) (h45:isE l i [45] = !b33) (r:Res) (hgd:∀ x t,r = .inl (x,t)→x.flat.length≤l.length - (i+1))
 (HW:∀ W,Keep g w W→Par W g v i d 0 0→Calls Tryz.prog 148 #[.pointer (some ⟨g,0,none⟩),.func (.func 136) #[.pointer (some ⟨g,0,none⟩)] #[]] W (PPost l g v (i+1) d k0 r W)) :
 Calls Tryz.prog 136 #[.pointer (some ⟨g,0,none⟩)] w (PPost l g v i d k (unR ⟨if b33 then 4 else 3,0,[],(tk l i).pos⟩ r) w):=by
 obtain ⟨i0,hi0,hz0,hz1,hz2⟩:=info_parts info_nod
 have hct:=hc.now hp.lt
 obtain ⟨bt0,offt,ct,rfl,hcc,hbt,hatt⟩:=hct.at_ (by omega)
 have hat:=hatt i hi
 rw [← tk_at hi] at hat
 have hk:=hat.kind
 have hx:=hat.text
 have hn:=hat.n
 have hps:=hat.pos
 clear hat hatt hcc hct
 have HT:Hid (∀ u,Keep g w u→Toks u (.slice (some ⟨bt0,offt,none⟩) l.length ct) l):=fun u hu=>(hc.keep hu hp.lt).now (Nat.lt_of_lt_of_le hp.lt hu.size)
 have HI:∀ (c:UInt8) (b:Bool),isE l i [c] = b→Hid (∀ u,Keep g w u→Calls Tryz.prog 50 #[.slice (some ⟨bt0,offt,none⟩) l.length ct,.int .i64 i,.string ⟨#[c]⟩] u fun e w'=>e = .returned (.bool b)∧w' = u):=fun c b hb u hu=>by
  have:=is_c l (by omega) i [c] _ u (HT.out u hu)
  unfold IsPost at this
  rw [hb] at this
  exact this.mono fun _ _ ⟨h1,h2⟩=>⟨h1,h2.symm⟩
 have hd0:decide ((l.length:Int)≤(i:Int))=false:=by simp;omega
 have hd1:decide (l.length≤i)=false:=by simp;omega
 have HPA:=Lib.hid hp
 have HCX:=Lib.hid hc
 have hg1:¬ (g=w.heap.size+1):=by have:=hp.lt;omega
 have hg2:¬ (w.heap.size+1=g):=by have:=hp.lt;omega
 have hg3:¬ (g=w.heap.size):=by have:=hp.lt;omega
 have hg4:¬ (w.heap.size=g):=by have:=hp.lt;omega
 obtain ⟨pl,p0,p1,p2,p3,p4,pf1,pf2,pf3,pf4⟩:=hp
 have H33:=HI 33 _ h33
 have H45:=HI 45 _ h45
 have HWI:=Lib.hid HW
 have HGD:=Lib.hid hgd
 have htt:(tk l i).text=if b33 then [33] else [45]:=by
  cases b33
  ·exact (isE_text h45).1
  ·exact (isE_text h33).1
 have hst:((str (tk l i).text).toList == [45]) = !b33:=by
  rw [htt,str_toList]
  cases b33 <;> rfl
 clear HI h33 h45 hc HW hgd htt
 generalize tk l i=t at hk hx hn hps hst
 have HLB:Hid (∀ n,n≤l.length - (i+1)→1+n≤maxLen∧(1+n)*40≤140737488355328):=fun n h=>by unfold maxLen;constructor <;> omega
 cases b33
 ·show Calls _ _ _ _ (PPost l g _ i d k (unR ⟨3,0,[],t.pos⟩ r) w)
  go_enter Tryz.func136,Tryz.ntmps136
  go_wp2_with fail
  go_quiet (fail)
  go_wp2_with fail
  go_region
  go_wp2_with fail
  go_quiet (first | (go_at_call_of 50 (Value.string ⟨#[33]⟩);refine (H33.out _ ?_).mono ?_;(repeat (first | exact Keep.refl _ _ | refine Keep.drewN ?_ _ | refine Keep.drew ?_ | refine Keep.alloc ?_ _));rintro e w' ⟨he,hw⟩;exact ⟨he,_,hw⟩))
  go_wp2_with fail
  go_quiet (first | (go_at_call_of 50 (Value.string ⟨#[45]⟩);refine (H45.out _ ?_).mono ?_;(repeat (first | exact Keep.refl _ _ | refine Keep.drewN ?_ _ | refine Keep.drew ?_ | refine Keep.alloc ?_ _));rintro e w' ⟨he,hw⟩;exact ⟨he,_,hw⟩))
  go_wp2_with fail
  generalize hwd:World.drewN (World.alloc (World.drewN (World.alloc w _) _) _) _=wd
  have hbx:Bx w g (.slice (some ⟨bt0,offt,none⟩) l.length ct) i d t wd:=by subst hwd;exact bx_made HPA.out t _ _
  clear hwd pl p0 p1 p2 p3 p4 pf1 pf2 pf3 pf4
  have HBX:=Lib.hid hbx
  have HBT:Hid (Bt w g t wd):=⟨hbx.box,hbx.tok⟩
  obtain ⟨hkp,hbox,⟨tl,t0,t1,t2,t3,_,_,_,_⟩,⟨pl,p0,p1,p2,p3,p4,pf1,pf2,pf3,pf4⟩⟩:=hbx
  have HKP:=Lib.hid hkp
  clear hkp
  go_wp2_with fail
  go_region_held3 (fun w'=>w'.cell? ⟨w.heap.size,0,none⟩=some (.pointer (some ⟨g,0,none⟩))∧w'.cell? ⟨w.heap.size+1,3,none⟩=some (.int .i64 t.pos)) (first | exact ⟨by assumption,by assumption⟩ | go_keep)
   (first
     | (go_at_call 148;refine (HWI.out _ ?_ ?_).mono ?_;(repeat (first | exact HKP.out | refine Keep.drewN ?_ _ | refine Keep.drew ?_ | refine Keep.alloc ?_ _));(repeat (first | exact HBX.out.par | refine Par.drewN ?_ _ | refine Par.drew ?_ | refine Par.below ?_ (al _ _)));rintro e w5 ⟨hk5,A5,n5,c5,a5,e5,p5,rfl,hp5,hf5,hv5⟩;have hbt5:=Bt.keep (Bt.below HBT.out (bla)) hk5 HPA.out.lt;have HBT5:=Lib.hid hbt5;obtain ⟨hbox5,⟨_,_,_,_,hpos5,_,_,_,_⟩⟩:=hbt5;obtain ⟨nl,hnl,hnlen,hnle⟩:=hv5.nods HGD.out;have hkw5:Keep g w w5:=Keep.trans (by repeat (first | exact HKP.out | refine Keep.drewN ?_ _ | refine Keep.drew ?_ | refine Keep.alloc ?_ _)) hk5;have hsz5:w.heap.size+2≤w5.heap.size:=HBT5.out.tok.lt)
     | (refine step_app (by rfl) _ _ 29 (by rfl) (w.heap.size+2) 33 i0 _ 4 40 Tryz.underlying29 hi0 hz0 hz1 hz2 rfl (by decide) (.slice (some ⟨wd.heap.size,0,none⟩) 1 1) 1 (Nod.cells ⟨3,0,[],t.pos⟩) (by rfl) ?_ (.slice A5 n5 c5) nl.length (nl.flatMap Nod.cells) (by rfl) ?_ (nod_one nl) ?_ ?_ ?_ ?_;exact (own_below (own_keep (own_below (own_at wd ⟨3,0,[],t.pos⟩ _ (w.heap.size+2) rfl HBT.out.tok.lt) (bla)) (Nat.lt_succ_of_lt (Nat.lt_succ_of_lt HPA.out.lt)) hk5) (bla));exact hnl.below (bla);exact (HLB.out _ hnlen).1;exact (HLB.out _ hnlen).2;exact Nat.le_trans hsz5 (Below.size (w:=w5) (B:=w5.heap.size) (bla));intro v6 w6 hown6 hb6;obtain ⟨A6,c6,rfl⟩:=own_shape hown6;have hkw6:=Keep.thenB (Keep.trans hkw5 (Keep.of (bla))) (Below.mono hb6 (Nat.le_succ_of_le (Nat.le_succ _)));have hp6:=Par.belowB (Par.below hp5 (bla)) hb6 (Nat.lt_succ_of_lt (Nat.lt_succ_of_lt HPA.out.lt));have hbt6:=Bt.belowB (Bt.below HBT5.out (bla)) hb6;obtain ⟨hbox6,⟨_,_,_,_,hpos6,_,_,_,_⟩⟩:=hbt6)
     | (refine step_app (by rfl) _ _ 29 (by rfl) (w.heap.size+2) 33 i0 _ 4 40 Tryz.underlying29 hi0 hz0 hz1 hz2 rfl (by decide) (.slice (some ⟨w5.heap.size,0,none⟩) 1 1) 1 (Nod.cells ⟨3,0,[],t.pos⟩) (by rfl) ?_ (.slice A5 n5 c5) nl.length (nl.flatMap Nod.cells) (by rfl) ?_ (nod_one nl) ?_ ?_ ?_ ?_;exact (own_below (own_at w5 ⟨3,0,[],t.pos⟩ _ (w.heap.size+2) rfl hsz5) (bla));exact hnl.below (bla);exact (HLB.out _ hnlen).1;exact (HLB.out _ hnlen).2;exact Nat.le_trans hsz5 (Below.size (w:=w5) (B:=w5.heap.size) (bla));intro v6 w6 hown6 hb6;obtain ⟨A6,c6,rfl⟩:=own_shape hown6;have hkw6:=Keep.thenB (Keep.trans hkw5 (Keep.of (bla))) (Below.mono hb6 (Nat.le_succ_of_le (Nat.le_succ _)));have hp6:=Par.belowB (Par.below hp5 (bla)) hb6 (Nat.lt_succ_of_lt (Nat.lt_succ_of_lt HPA.out.lt));have hbt6:=Bt.belowB (Bt.below HBT5.out (bla)) hb6;obtain ⟨hbox6,⟨_,_,_,_,hpos6,_,_,_,_⟩⟩:=hbt6))
  all_goals
   go_wp2_with fail
   go_ret
   exact ⟨hkw6,A6,_,c6,a5,e5,p5,rfl,hp6,((own_cons hown6).2.mono (Nat.le_succ_of_le (Nat.le_succ _))),un_post hi hk0 hv5 hnlen hnle (own_cons hown6).1⟩
 ·show Calls _ _ _ _ (PPost l g _ i d k (unR ⟨4,0,[],t.pos⟩ r) w)
  go_enter Tryz.func136,Tryz.ntmps136
  go_wp2_with fail
  go_quiet (fail)
  go_wp2_with fail
  go_region
  go_wp2_with fail
  go_quiet (first | (go_at_call_of 50 (Value.string ⟨#[33]⟩);refine (H33.out _ ?_).mono ?_;(repeat (first | exact Keep.refl _ _ | refine Keep.drewN ?_ _ | refine Keep.drew ?_ | refine Keep.alloc ?_ _));rintro e w' ⟨he,hw⟩;exact ⟨he,_,hw⟩))
  go_wp2_with fail
  generalize hwd:World.drewN (World.alloc (World.drewN (World.alloc w _) _) _) _=wd
  have hbx:Bx w g (.slice (some ⟨bt0,offt,none⟩) l.length ct) i d t wd:=by subst hwd;exact bx_made HPA.out t _ _
  clear hwd pl p0 p1 p2 p3 p4 pf1 pf2 pf3 pf4
  have HBX:=Lib.hid hbx
  have HBT:Hid (Bt w g t wd):=⟨hbx.box,hbx.tok⟩
  obtain ⟨hkp,hbox,⟨tl,t0,t1,t2,t3,_,_,_,_⟩,⟨pl,p0,p1,p2,p3,p4,pf1,pf2,pf3,pf4⟩⟩:=hbx
  have HKP:=Lib.hid hkp
  clear hkp
  go_wp2_with fail
  go_region_held3 (fun w'=>w'.cell? ⟨w.heap.size,0,none⟩=some (.pointer (some ⟨g,0,none⟩))∧w'.cell? ⟨w.heap.size+1,3,none⟩=some (.int .i64 t.pos)) (first | exact ⟨by assumption,by assumption⟩ | go_keep)
   (first
     | (go_at_call 148;refine (HWI.out _ ?_ ?_).mono ?_;(repeat (first | exact HKP.out | refine Keep.drewN ?_ _ | refine Keep.drew ?_ | refine Keep.alloc ?_ _));(repeat (first | exact HBX.out.par | refine Par.drewN ?_ _ | refine Par.drew ?_ | refine Par.below ?_ (al _ _)));rintro e w5 ⟨hk5,A5,n5,c5,a5,e5,p5,rfl,hp5,hf5,hv5⟩;have hbt5:=Bt.keep (Bt.below HBT.out (bla)) hk5 HPA.out.lt;have HBT5:=Lib.hid hbt5;obtain ⟨hbox5,⟨_,_,_,_,hpos5,_,_,_,_⟩⟩:=hbt5;obtain ⟨nl,hnl,hnlen,hnle⟩:=hv5.nods HGD.out;have hkw5:Keep g w w5:=Keep.trans (by repeat (first | exact HKP.out | refine Keep.drewN ?_ _ | refine Keep.drew ?_ | refine Keep.alloc ?_ _)) hk5;have hsz5:w.heap.size+2≤w5.heap.size:=HBT5.out.tok.lt)
     | (refine step_app (by rfl) _ _ 29 (by rfl) (w.heap.size+2) 33 i0 _ 4 40 Tryz.underlying29 hi0 hz0 hz1 hz2 rfl (by decide) (.slice (some ⟨wd.heap.size,0,none⟩) 1 1) 1 (Nod.cells ⟨4,0,[],t.pos⟩) (by rfl) ?_ (.slice A5 n5 c5) nl.length (nl.flatMap Nod.cells) (by rfl) ?_ (nod_one nl) ?_ ?_ ?_ ?_;exact (own_below (own_keep (own_below (own_at wd ⟨4,0,[],t.pos⟩ _ (w.heap.size+2) rfl HBT.out.tok.lt) (bla)) (Nat.lt_succ_of_lt (Nat.lt_succ_of_lt HPA.out.lt)) hk5) (bla));exact hnl.below (bla);exact (HLB.out _ hnlen).1;exact (HLB.out _ hnlen).2;exact Nat.le_trans hsz5 (Below.size (w:=w5) (B:=w5.heap.size) (bla));intro v6 w6 hown6 hb6;obtain ⟨A6,c6,rfl⟩:=own_shape hown6;have hkw6:=Keep.thenB (Keep.trans hkw5 (Keep.of (bla))) (Below.mono hb6 (Nat.le_succ_of_le (Nat.le_succ _)));have hp6:=Par.belowB (Par.below hp5 (bla)) hb6 (Nat.lt_succ_of_lt (Nat.lt_succ_of_lt HPA.out.lt));have hbt6:=Bt.belowB (Bt.below HBT5.out (bla)) hb6;obtain ⟨hbox6,⟨_,_,_,_,hpos6,_,_,_,_⟩⟩:=hbt6)
     | (refine step_app (by rfl) _ _ 29 (by rfl) (w.heap.size+2) 33 i0 _ 4 40 Tryz.underlying29 hi0 hz0 hz1 hz2 rfl (by decide) (.slice (some ⟨w5.heap.size,0,none⟩) 1 1) 1 (Nod.cells ⟨4,0,[],t.pos⟩) (by rfl) ?_ (.slice A5 n5 c5) nl.length (nl.flatMap Nod.cells) (by rfl) ?_ (nod_one nl) ?_ ?_ ?_ ?_;exact (own_below (own_at w5 ⟨4,0,[],t.pos⟩ _ (w.heap.size+2) rfl hsz5) (bla));exact hnl.below (bla);exact (HLB.out _ hnlen).1;exact (HLB.out _ hnlen).2;exact Nat.le_trans hsz5 (Below.size (w:=w5) (B:=w5.heap.size) (bla));intro v6 w6 hown6 hb6;obtain ⟨A6,c6,rfl⟩:=own_shape hown6;have hkw6:=Keep.thenB (Keep.trans hkw5 (Keep.of (bla))) (Below.mono hb6 (Nat.le_succ_of_le (Nat.le_succ _)));have hp6:=Par.belowB (Par.below hp5 (bla)) hb6 (Nat.lt_succ_of_lt (Nat.lt_succ_of_lt HPA.out.lt));have hbt6:=Bt.belowB (Bt.below HBT5.out (bla)) hb6;obtain ⟨hbox6,⟨_,_,_,_,hpos6,_,_,_,_⟩⟩:=hbt6))
  all_goals
   go_wp2_with fail
   go_ret
   exact ⟨hkw6,A6,_,c6,a5,e5,p5,rfl,hp6,((own_cons hown6).2.mono (Nat.le_succ_of_le (Nat.le_succ _))),un_post hi hk0 hv5 hnlen hnle (own_cons hown6).1⟩
end Go.Proofs.YtaoeaaebafcegaaGreatDoor

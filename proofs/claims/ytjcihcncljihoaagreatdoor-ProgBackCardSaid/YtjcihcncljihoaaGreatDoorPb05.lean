/- Chapter 05 (programs), joined: PalA, StmA, StmF, PalD. -/
import Derived.Test.YtjcihcncljihoaaGreatDoorPb02
import Derived.Test.YtjcihcncljihoaaGreatDoorPb03
import Derived.Test.YtjcihcncljihoaaGreatDoorPb04
import Derived.Deep.DeepCutAuto
import Derived.Deep.RegionLaw
import Derived.Deep.RegionWith
set_option maxRecDepth 100000
set_option maxHeartbeats 2000000
namespace Go.Proofs.YtjcihcncljihoaaGreatDoor
open Go Go.RowKit
set_option linter.unusedVariables false
open Go.Lib renaming hid→kaa
open Go.RowKit.Below renaming refl→Gaa
open Go.World renaming frozen?→oba,size_alloc→gba
open List renaming foldl→pba
open Nat renaming le_of_lt→nba,le_refl→aaa,lt_of_lt_of_le→mba,zero_le→laa
open Go.Proofs.Tryz renaming prog→maa
theorem fa{P:Prop}(h:P:=by
 go_enter Tryz.func244,Tryz.ntmps244;go_wp2_with fail;go_quiet (fail);go_wp2_with fail;generalize hW:World.drewN w _=wd;have hK:uh g w wd:=by subst hW;exact(uh.refl _ _).drewN _
 have hPd:Cj wd g (.slice A l.length c) i d 0 0:=by subst hW;exact HPA.out.drewN _
 clear hW p0 p1 p2 p3 p4 pf1 pf2 pf3 pf4 pl;have HPd:=Lib.hid hPd;obtain⟨pl,p0,p1,p2,p3,p4,pf1,pf2,pf3,pf4⟩:=hPd;have HT:Hid (∀ u,uh g wd u→Vi u (.slice A l.length c) l):=fun u hu=>(HC.out.keep (hK.trans hu) HPA.out.lt).now (Nat.lt_of_lt_of_le HPA.out.lt (hK.trans hu).size);go_region_with (go_at_call 87;refine(HP.out _ (HT.out _ ?_)).mono ?_;(first|exact(uh.refl g wd)|exact(uh.refl g wd).drew|exact(uh.refl g wd).drew.drew|exact(uh.refl g wd).drew.drew.drew|exact(uh.refl g wd).drew.drew.drew.drew|exact((uh.refl g wd).set 3 _)|exact((uh.refl g wd).set 3 _).drew|exact((uh.refl g wd).set 3 _).drew.drew|exact((uh.refl g wd).set 3 _).drew.drew.drew|exact((uh.refl g wd).set 3 _).drew.drew.drew.drew);rintro e w5 ⟨rfl,hb5⟩;(first|(have hK5:=(uh.refl g wd).trans (uh.of hb5);have hP5:=HPd.out.below hb5)|(have hK5:=(uh.refl g wd).drew.trans (uh.of hb5);have hP5:=HPd.out.drew.below hb5)|(have hK5:=(uh.refl g wd).drew.drew.trans (uh.of hb5);have hP5:=HPd.out.drew.drew.below hb5)|(have hK5:=(uh.refl g wd).drew.drew.drew.trans (uh.of hb5);have hP5:=HPd.out.drew.drew.drew.below hb5)|(have hK5:=(uh.refl g wd).drew.drew.drew.drew.trans (uh.of hb5);have hP5:=HPd.out.drew.drew.drew.drew.below hb5)|(have hK5:=((uh.refl g wd).set 3 _).trans (uh.of hb5);have hP5:=(HPd.out.set3 _).below hb5)|(have hK5:=((uh.refl g wd).set 3 _).drew.trans (uh.of hb5);have hP5:=(HPd.out.set3 _).drew.below hb5)|(have hK5:=((uh.refl g wd).set 3 _).drew.drew.trans (uh.of hb5);have hP5:=(HPd.out.set3 _).drew.drew.below hb5)|(have hK5:=((uh.refl g wd).set 3 _).drew.drew.drew.trans (uh.of hb5);have hP5:=(HPd.out.set3 _).drew.drew.drew.below hb5)|(have hK5:=((uh.refl g wd).set 3 _).drew.drew.drew.drew.trans (uh.of hb5);have hP5:=(HPd.out.set3 _).drew.drew.drew.drew.below hb5));have HP5:=Lib.hid hP5;obtain⟨ql,q0,q1,q2,q3,q4,qf1,qf2,qf3,qf4⟩:=hP5);all_goals
  go_wp2_with fail;go_ret;refine⟨rfl,?_⟩;first
   |exact⟨hK.trans ((hK5.set _ _).set _ _),HP5.out.set34 _ _⟩
   |exact⟨hK.trans ((hK5.set _ _).set _ _),HP5.out.set43 _ _⟩
   |exact⟨hK.trans (hK5.set _ _),HP5.out.set4 _⟩
   |exact⟨hK.trans ((hK5.set _ _).set _ _).drew,(HP5.out.set34 _ _).drew⟩
   |exact⟨hK.trans ((hK5.set _ _).set _ _).drew,(HP5.out.set43 _ _).drew⟩
   |exact⟨hK.trans (hK5.set _ _).drew,(HP5.out.set4 _).drew⟩
   |exact⟨hK.trans ((hK5.set _ _).set _ _).drew.drew,(HP5.out.set34 _ _).drew.drew⟩
   |exact⟨hK.trans ((hK5.set _ _).set _ _).drew.drew,(HP5.out.set43 _ _).drew.drew⟩
   |exact⟨hK.trans (hK5.set _ _).drew.drew,(HP5.out.set4 _).drew.drew⟩):P:=h
theorem ra{P:Prop}(h:P:=by
 have HW:Hid (∀ u,Cj u g v i 12 0 0→Jm g v l u→Calls Tryz.prog 244 #[.pointer (some ⟨g,0,none⟩),.int .i64 7] u fun e w'=>e = .returned (.slice none 0 0)∧uh g u w'∧Cj w' g v i 12 7 (Ch l i)):=fun u h1 h2=>by have:=Vu l hl g v i 12 7 u h1 h2;rw[if_neg (by omega)]at this;exact this
 have HP:=Lib.hid hp;have HC:=Lib.hid hc;obtain⟨pl,p0,p1,p2,p3,p4,pf1,pf2,pf3,pf4⟩:=hp;clear hc;go_enter Tryz.func245,Tryz.ntmps245;go_wp2_with (go_at_call 244;refine(HW.out _ HP.out HC.out).mono ?_;rintro e w1 ⟨rfl,hk1,hp1⟩);go_ret;exact⟨hk1,none,0,0,i,7,Ch l i,rfl,hp1,ai _ _ _,rfl,rfl,by omega,by omega,[],Sl.nil _ _ _,by simp⟩):P:=h
theorem ab{P:Prop}(h:P:=by go_ret;have hk:=(((uh.refl g w).set 2 (.int .i64 ((d:Int)+1))).set 1 (.int .i64 ((i:Int)+1))).trans hk1;simp only[World.size_setCell]at hf1;refine⟨hk.set 2 (.int .i64 (d:Int)),A1,n1,c1,a1,e1,p1',rfl,HP1.out.set2 _,hf1,hv1.keep hf1 pl ((uh.refl g w1).set 2 _)⟩):P:=h
theorem ec{P:Prop}(h:P:=by obtain⟨hl,h0,h1,h2,h3,h4,f1,f2,f3,f4⟩:=h;refine⟨by simpa[World.setCell]using hl,?_,?_,?_,?_,?_,?_,?_,?_,?_⟩<;>simp[*,go_sem]):P:=h
theorem ed{P:Prop}(h:P:=by
 go_roundw;case rel=>exact⟨j+1,by omega,by go_num,bt HB.out hb2,HF.out⟩
 case measure=>simp[intOf];omega):P:=h
theorem fd{P:Prop}(h:P:=by
 split at h;·cases h
 ·injection h with h;rw[show e=(cj l i 5).1 by rw[h]];exact Bv (by decide)):P:=h
theorem Kd{P:Prop}(h:P:=by
 go_round;case rel=>exact⟨j+1,by omega,by go_num⟩
 case measure=>simp[intOf];omega):P:=h
theorem Md{P:Prop}(h:P:=by
 by_cases hjj:j'<j;·exact HNO.out j' h hjj
 ·obtain rfl:j'=j:=by omega
  exact his):P:=h
theorem Ee{P:Prop}(h:P:=by exact⟨h2.1.trans h1.1,h2.2.1.trans h1.2.1,h2.2.2.trans h1.2.2⟩):P:=h
structure uh (g:Nat) (w w':World):Prop where
 os:w'.os=w.os
 tape:w'.tape=w.tape
 output:w'.output=w.output
 size:w.heap.size≤w'.heap.size
 block:∀ k,k < w.heap.size→k≠g→w'.heap[k]? = w.heap[k]?
theorem uh.refl(g:Nat)(w:World):uh g w w:=⟨rfl,rfl,rfl,aaa _,fun _ _ _=>rfl⟩
theorem uh.trans{g:Nat}{a b c:World}(h:uh g a b)(k:uh g b c):uh g a c :=
 ⟨k.os.trans h.os,k.tape.trans h.tape,k.output.trans h.output,Nat.le_trans h.size k.size,fun i hi A=>(k.block i (mba hi h.size) A).trans (h.block i hi A)⟩
theorem uh.of{g:Nat}{a b:World}(h:Below a.heap.size a b):uh g a b:=⟨h.os,h.tape,h.output,h.size,fun i hi _=>h.block i hi⟩
theorem uh.below{g:Nat}{a b:World}(h:uh g a b)(A:g≤a.heap.size):Below g a b:=⟨h.os,h.tape,h.output,h.size,fun i hi=>h.block i Tf Tf⟩
theorem uh.drew{g:Nat}{a b:World}(h:uh g a b):uh g a b.drew:=⟨h.os,h.tape,h.output,h.size,h.block⟩
theorem uh.drewN{g:Nat}{a b:World}(h:uh g a b)(n:Nat):uh g a (b.drewN n):=⟨h.os,h.tape,h.output,h.size,h.block⟩
theorem uh.set{g:Nat}{a b:World}(h:uh g a b)(o:Nat)(u:Value):uh g a (b.setCell ⟨g,o,none⟩ u) :=
 ⟨h.os,h.tape,h.output,by rw[World.size_setCell];exact h.size,fun k E A=>(Below.heap_setCell _ _ _ _ (fun e=>A e)).trans (h.block k E A)⟩
theorem uh.alloc{g:Nat}{a b:World}(h:uh g a b)(o:Obj):uh g a (b.alloc o):=h.trans (uh.of ((Gaa _ _).alloc (aaa _) _))
theorem bi.keep{g:Nat}{w w':World}{v:Value}{size n:Nat}{cs:List Value}(h:bi w v size n cs){B:Nat}(M:dj B v)(Y:g<B)(H:uh g w w'):bi w' v size n cs:=by obtain⟨J,A,c,rfl,L,hr⟩:=h;refine⟨J,A,c,rfl,L,fun I=>?_⟩;obtain⟨b,off,rfl,G,E⟩:=hr I;have Q:B≤b:=M _ _ _ rfl;refine⟨b,off,rfl,mba G H.size,fun j x O=>?_⟩;have:=E j x O;unfold World.cell? at this ⊢;rw[H.block b G Tf];exact this
structure Cj (w:World) (g:Nat) (v:Value) (i d e p:Int):Prop where
 lt:g < w.heap.size
 c0:w.cell? ⟨g,0,none⟩=some v
 c1:w.cell? ⟨g,1,none⟩=some (.int .i64 i)
 c2:w.cell? ⟨g,2,none⟩=some (.int .i64 d)
 c3:w.cell? ⟨g,3,none⟩=some (.int .i64 e)
 c4:w.cell? ⟨g,4,none⟩=some (.int .i64 p)
 f1:w.frozen? ⟨g,1,none⟩=false
 f2:w.frozen? ⟨g,2,none⟩=false
 f3:w.frozen? ⟨g,3,none⟩=false
 f4:w.frozen? ⟨g,4,none⟩=false
theorem Cj.belowB{w w':World}{g B:Nat}{v:Value}{i d e p:Int}(h:Cj w g v i d e p)(E:Below B w w')(A:g<B):Cj w' g v i d e p:=by
 have H:=E.size;have G:=h.lt;exact⟨by omega,(E.cell (p:=⟨g,0,none⟩) A).trans h.c0,(E.cell (p:=⟨g,1,none⟩) A).trans h.c1,(E.cell (p:=⟨g,2,none⟩) A).trans h.c2,(E.cell (p:=⟨g,3,none⟩) A).trans h.c3,(E.cell (p:=⟨g,4,none⟩) A).trans h.c4,
  (E.frozen (p:=⟨g,1,none⟩) A).trans h.f1,(E.frozen (p:=⟨g,2,none⟩) A).trans h.f2,(E.frozen (p:=⟨g,3,none⟩) A).trans h.f3,(E.frozen (p:=⟨g,4,none⟩) A).trans h.f4⟩
theorem Cj.below{w w':World}{g:Nat}{v:Value}{i d e p:Int}(h:Cj w g v i d e p)(A:Below w.heap.size w w'):Cj w' g v i d e p:=h.belowB A h.lt
theorem Cj.set1{w:World}{g:Nat}{v:Value}{i d e p:Int}(h:Cj w g v i d e p)(j:Int):Cj (w.setCell ⟨g,1,none⟩ (.int .i64 j)) g v j d e p:=by exact ec
theorem Cj.set2{w:World}{g:Nat}{v:Value}{i d e p:Int}(h:Cj w g v i d e p)(j:Int):Cj (w.setCell ⟨g,2,none⟩ (.int .i64 j)) g v i j e p:=by exact ec
theorem Cj.set3{w:World}{g:Nat}{v:Value}{i d e p:Int}(h:Cj w g v i d e p)(j:Int):Cj (w.setCell ⟨g,3,none⟩ (.int .i64 j)) g v i d j p:=by exact ec
theorem Cj.set4{w:World}{g:Nat}{v:Value}{i d e p:Int}(h:Cj w g v i d e p)(j:Int):Cj (w.setCell ⟨g,4,none⟩ (.int .i64 j)) g v i d e j:=by exact ec
theorem Cj.set34{w:World}{g:Nat}{v:Value}{i d e p:Int}(h:Cj w g v i d e p)(x y:Int):Cj ((w.setCell ⟨g,3,none⟩ (.int .i64 x)).setCell ⟨g,4,none⟩ (.int .i64 y)) g v i d x y:=by exact ec
theorem Cj.drewN{w:World}{g:Nat}{v:Value}{i d e p:Int}(h:Cj w g v i d e p)(n:Nat):Cj (w.drewN n) g v i d e p:=h.below ⟨rfl,rfl,rfl,aaa _,fun _ _=>rfl⟩
theorem Cj.drew{w:World}{g:Nat}{v:Value}{i d e p:Int}(h:Cj w g v i d e p):Cj w.drew g v i d e p:=h.below ⟨rfl,rfl,rfl,aaa _,fun _ _=>rfl⟩
theorem Xj.belowB{w w':World}{B:Nat}(h:Xj w)(A:Below B w w')(hm:0<B)(ht:5<B)(hr:2<B):Xj w':=by have:=A.size;have G:=h.hm;have H:=h.ht;have I:=h.hr;obtain⟨m,E⟩:=h.mlen;obtain⟨c,d,h5⟩:=h.rng;exact⟨by omega,by omega,by omega,⟨m,(A.cell (p:=⟨_,0,none⟩) hm).trans E⟩,var?_below A Vf ht h.tab,⟨c,d,var?_below A Vf hr h5⟩⟩
structure Jm (g:Nat) (v:Value) (l:List xh) (w:World):Prop where
 toks:Sl w g v 4 l.length (l.flatMap xh.cells)
 env:Xj w
 em:0 < g
 et:5 < g
 er:2 < g
theorem Jm.belowB{g:Nat}{v:Value}{l:List xh}{w w':World}(h:Jm g v l w)(A:Below g w w'):Jm g v l w' :=
 ⟨h.toks.below A,h.env.belowB A h.em h.et h.er,h.em,h.et,h.er⟩
theorem Jm.keep{g:Nat}{v:Value}{l:List xh}{w w':World}(h:Jm g v l w)(E:uh g w w')(A:g<w.heap.size):Jm g v l w':=h.belowB (E.below (nba A))
theorem Jm.now{g:Nat}{v:Value}{l:List xh}{w:World}(h:Jm g v l w)(A:g<w.heap.size):Vi w v l:=h.toks.more (nba A)
theorem Vu(l:List xh)(Y:l.length≤100000)(g:Nat)(v:Value)(i:Nat)(d G:Int)(w:World)(J:Cj w g v i d 0 0)(H:Jm g v l w):Calls maa 244 #[.pointer (some ⟨g,0,none⟩),.int .i64 G] w fun e w'=>e = .returned (.slice none 0 0)∧uh g w w'∧Cj w' g v i d (if l.length≤i∧G=5 then 6 else G) (Ch l i):=by
 have E:=H.now J.lt;obtain⟨A,c,L,O⟩:=E.shape;subst L;have HP:Hid (∀ u:World,Vi u (.slice A l.length c) l→Calls maa 87 #[.slice A l.length c,.int .i64 i] u (Vj l i u)):=fun u hu=>gv l Tf i _ u hu;have HPA:=kaa J;have HC:=kaa H;obtain⟨pl,p0,p1,p2,p3,p4,pf1,pf2,pf3,pf4⟩:=J;clear H E;by_cases M:l.length≤i
 ·have Q:decide ((l.length:Int)≤(i:Int))=true:=by simp;omega
  have I:decide (l.length≤i)=true:=by simp;omega
  cases h5:(G==5);·rw[if_neg (fun h=>by rw[h.2]at h5;cases h5)];exact fa
  ·rw[if_pos ⟨M,eq_of_beq h5⟩];exact fa
 ·have Q:decide ((l.length:Int)≤(i:Int))=false:=by simp;omega
  have I:decide (l.length≤i)=false:=by simp;omega
  ·rw[if_neg (fun h=>M h.1)];exact fa
def Bp(w:World)(V:Value):Prop:=∀ A n c,V = .slice (some A) n c→A.block<w.heap.size∧∀ j,w.frozen? ⟨A.block,j,none⟩=false
theorem Bp.below{w w':World}{V:Value}(h:Bp w V)(G:Below w.heap.size w w'):Bp w' V:=fun A n c e=>by obtain⟨E,H⟩:=h A n c e;exact⟨mba E G.size,fun j=>(G.frozen (p:=⟨A.block,j,none⟩) E).trans (H j)⟩
theorem Bp.keep{w w':World}{V:Value}(h:Bp w V){B g:Nat}(I:dj B V)(L:g<B)(G:uh g w w'):Bp w' V:=fun A n c e=>by obtain⟨E,H⟩:=h A n c e;have J:=I A n c e;refine⟨mba E G.size,fun j=>?_⟩;have:=H j;unfold oba at this ⊢;rw[G.block A.block E Tf];exact this
theorem Bp.own{w:World}{A:Nat}{e:TypeId}{size:Nat}{v:Value}{n:Nat}{G:List Value}(h:w.ownsRow A e size v n G):Bp w v:=fun H m c E=>by
 rcases h.2 with⟨rfl,_⟩|⟨g,cap,cur,rfl,hg,hh,_⟩;·cases E
 ·cases E;refine⟨?_,fun j=>?_⟩;·exact Xc
  ·unfold oba;rw[hh];simp
theorem Bp.nil(w:World)(n c:Nat):Bp w (.slice none n c):=fun A m k e=>by cases e
structure nk (w:World) (V:Value) (l:List Kh):Prop where
 nods:Wh w V l
 unf:Bp w V
theorem nk.below{w w':World}{V:Value}{l:List Kh}(h:nk w V l)(A:Below w.heap.size w w'):nk w' V l:=⟨bi.below h.nods A,h.unf.below A⟩
theorem nk.keep{w w':World}{V:Value}{l:List Kh}(h:nk w V l){B g:Nat}(A:dj B V)(E:g<B)(G:uh g w w'):nk w' V l:=⟨bi.keep h.nods A E G,h.unf.keep A E G⟩
theorem nk.shape{w:World}{V:Value}{l:List Kh}(h:nk w V l):∃ A c,V = .slice A l.length c∧l.length≤c:=Wh.shape h.nods
def ru(l:List xh)(i k:Nat)(r:Dm)(w:World)(V:Value)(a e p:Int):Prop:=match r with
 | .inl (x,t)=>a=t∧e=0∧p=0∧nk w V x.flat
 | .inr (E,G)=>e=E∧p=G∧0≤a∧a≤((max i l.length+k:Nat):Int)∧∃ A,Wh w V A∧A.length≤l.length - i
def fk(l:List xh)(g:Nat)(v:Value)(i:Nat)(d:Int)(k:Nat)(r:Dm)(w:World)(e:Ending)(w':World):Prop :=
 uh g w w'∧∃ (A:Option Addr) (n c:Nat) (a e1 p1:Int),e = .returned (.slice A n c)∧Cj w' g v a d e1 p1∧dj w.heap.size (.slice A n c)∧ru l i k r w' (.slice A n c) a e1 p1
theorem ru.keep{l:List xh}{i k:Nat}{r:Dm}{w w':World}{V:Value}{a e p:Int}(h:ru l i k r w V a e p){B g:Nat}(A:dj B V)(E:g<B)(G:uh g w w'):ru l i k r w' V a e p:=by
 unfold ru at h ⊢;split;·exact⟨h.1,h.2.1,h.2.2.1,nk.keep h.2.2.2 A E G⟩
 ·obtain⟨I,J,L,M,H,h5,h6⟩:=h;exact⟨I,J,L,M,H,bi.keep h5 A E G,h6⟩
theorem ai(B n c:Nat):dj B (.slice none n c):=fun A m k e=>by cases e
theorem Dp(l:List xh)(hl:l.length≤100000)(g:Nat)(v:Value)(i:Nat)(w:World)(hp:Cj w g v i 12 0 0)(hc:Jm g v l w)(hi:i<l.length)(k A:Nat):Calls maa 245 #[.pointer (some ⟨g,0,none⟩),.func (.func 218) #[.pointer (some ⟨g,0,none⟩)] #[]] w (fk l g v A 12 k (.inr (7,Ch l i)) w):=by exact ra
theorem Cv(l:List xh)(hl:l.length≤100000)(g:Nat)(v:Value)(i:Nat)(A:Nat)(w:World)(hp:Cj w g v i 12 0 0)(hc:Jm g v l w)(hi:i<l.length)(k E:Nat):Calls maa 245 #[.pointer (some ⟨g,0,none⟩),.func (.func 246) #[] #[.pointer (some ⟨A,0,none⟩)]] w (fk l g v E 12 k (.inr (7,Ch l i)) w):=by exact ra
theorem MC(l:List xh)(hl:l.length≤100000)(g:Nat)(v:Value)(i:Nat)(d:Nat)(hd:d<12)(w:World)(L:Cj w g v i d 0 0)(hi:i<l.length)(k:Nat)(r:Dm)(A:∀ u,uh g w u→Cj u g v ((i:Int)+1) ((d:Int)+1) 0 0→Calls maa 218 #[.pointer (some ⟨g,0,none⟩)] u (fk l g v (i+1) ((d:Int)+1) k r u)):Calls maa 245 #[.pointer (some ⟨g,0,none⟩),.func (.func 218) #[.pointer (some ⟨g,0,none⟩)] #[]] w (fk l g v (i+1) d k r w):=by
 have O:=kaa A;have M:=kaa L;obtain⟨pl,p0,p1,Y,Z,p4,G,H,I,J⟩:=L;clear A;have Q:((d:Int)==12)=false:=by rw[beq_eq_false_iff_ne];omega
 go_enter Tryz.func245,Tryz.ntmps245;go_wp2_with (go_at_call 218;refine(O.out _ (((uh.refl g w).set _ _).set _ _) ((M.out.set2 _).set1 _)).mono ?_;rintro e w1 ⟨hk1,A1,n1,c1,a1,e1,p1',rfl,E,hf1,hv1⟩;have HP1:=kaa E;clear p0 p1 Y Z p4 G H I J;obtain⟨ql,q0,q1,q2,q3,q4,d9,eT,eU,eV⟩:=E);exact ab
theorem WF(l:List xh)(hl:l.length≤100000)(g:Nat)(v:Value)(i:Nat)(d:Nat)(hd:d<12)(L:Nat)(w:World)(M:Cj w g v i d 0 0)(hi:i<l.length)(k:Nat)(r:Dm)(A:∀ u,uh g w u→Cj u g v ((i:Int)+1) ((d:Int)+1) 0 0→Calls maa 246 #[.pointer (some ⟨L,0,none⟩)] u (fk l g v (i+1) ((d:Int)+1) k r u)):Calls maa 245 #[.pointer (some ⟨g,0,none⟩),.func (.func 246) #[] #[.pointer (some ⟨L,0,none⟩)]] w (fk l g v (i+1) d k r w):=by
 have Q:=kaa A;have O:=kaa M;obtain⟨pl,p0,p1,Z,p3,p4,G,H,I,J⟩:=M;clear A;have Y:((d:Int)==12)=false:=by rw[beq_eq_false_iff_ne];omega
 go_enter Tryz.func245,Tryz.ntmps245;go_wp2_with (go_at_call 246;refine(Q.out _ (((uh.refl g w).set _ _).set _ _) ((O.out.set2 _).set1 _)).mono ?_;rintro e w1 ⟨hk1,A1,n1,c1,a1,e1,p1',rfl,E,hf1,hv1⟩;have HP1:=kaa E;clear p0 p1 Z p3 p4 G H I J;obtain⟨ql,q0,q1,q2,q3,q4,eW,eX,eY,eZ⟩:=E);exact ab
theorem dm{B:Nat}{a w:World}(h:Below B a w):Below B a w.drew:=⟨h.os,h.tape,h.output,h.size,h.block⟩
theorem Hn{B:Nat}{a b:World}(h:Below B a b)(n:Nat):Below B a (b.drewN n):=⟨h.os,h.tape,h.output,h.size,h.block⟩
theorem Wo{B:Nat}{a b:World}(h:Below B a b:=by repeat (first|exact Gaa _ _|assumption|refine Hn ?_ _|refine dm ?_)):Below B a b:=h
def wE(l:List xh)(i:Nat)(e A:Int):Int:=if e=0 then (if l.length≤i then 6 else A)else e
def wP(l:List xh)(i:Nat)(e p:Int):Int:=if e=0 then Ch l i else p
def mI(l:List xh)(s:List UInt8)(i:Nat)(e:Int):Nat:=if e=0∧Qh l i s=true then i+1 else i
def mE(l:List xh)(s:List UInt8)(i:Nat)(e:Int):Int:=if e=0∧Qh l i s=true then 0 else wE l i e 5
def mP(l:List xh)(s:List UInt8)(i:Nat)(e p:Int):Int:=if e=0∧Qh l i s=true then p else wP l i e p
def ri{α:Type}(e p:Int)(i:Nat)(r:RS α)(d:α):α × Nat × Int × Int:=if e=0 then (match r with|.inl (x,j)=>(x,j,0,p)|.inr (A,E)=>(d,i,A,E))else (d,i,e,p)
theorem jr{α:Type}{e p:Int}{i:Nat}{r:RS α}{d:α}(h:¬ e=0):ri e p i r d=(d,i,e,p):=if_neg h
inductive NF where
 | reg | name | nodes | more | times
 | sign (s:List UInt8)
structure Sg where
 x:St
 i:Nat
 e:Int
 p:Int
def Bi(l:List xh)(σ:Sg):NF→Sg
 | .reg=>let a:=ri σ.e σ.p σ.i (Th l σ.i) [];⟨{ σ.x with reg:=a.1 },a.2.1,a.2.2.1,a.2.2.2⟩
 | .name=>let a:=ri σ.e σ.p σ.i (Th l σ.i) [];⟨{ σ.x with name:=a.1 },a.2.1,a.2.2.1,a.2.2.2⟩
 | .nodes=>let a:=ri σ.e σ.p σ.i (Ri l σ.i) [];⟨{ σ.x with e:=a.1 },a.2.1,a.2.2.1,a.2.2.2⟩
 | .more=>let a:=ri σ.e σ.p σ.i (Ri l σ.i) [];⟨{ σ.x with f:=a.1 },a.2.1,a.2.2.1,a.2.2.2⟩
 | .times=>let a:=ri σ.e σ.p σ.i (Gi l σ.i) 0;⟨{ σ.x with n:=a.1 },a.2.1,a.2.2.1,a.2.2.2⟩
 | .sign s=>let a:=ri σ.e σ.p σ.i (Oh l s σ.i) ();⟨σ.x,a.2.1,a.2.2.1,a.2.2.2⟩
def ki(l:List xh)(σ:Sg)(A:List NF):Sg:=A.foldl (Bi l) σ
theorem AA{l:List xh}{σ:Sg}(h:¬ σ.e=0)(o:NF):(Bi l σ o).e=σ.e∧(Bi l σ o).p=σ.p∧(Bi l σ o).i=σ.i:=by cases o<;>simp[Bi,jr h]
theorem uz{l:List xh}:∀ (A:List NF) {σ:Sg},¬ σ.e=0→(ki l σ A).e=σ.e∧(ki l σ A).p=σ.p∧(ki l σ A).i=σ.i
 | [],σ,h=>⟨rfl,rfl,rfl⟩
 |o::r,σ,h=>by have h1:=AA (l:=l) h o;have h2:=uz (l:=l) r (σ:=Bi l σ o) (by rw[h1.1];exact h);exact Ee
def au(c:UInt8):NF:=if c=114 then .reg else if c=110 then .name else if c=101 then .nodes else if c=102 then .more else .times
def fi(n:Nat):List NF:=if n=0 then []else [.sign (if n=1 then [61]else [44])]
def Pj:List UInt8→Nat→List NF
 | [],n=>[]
 |c::r,n=>fi n++(au c::Pj r (n+1))
def Kn(k:Nat):List NF:=Pj (Gh k) 0
theorem Bv{l:List xh}{i:Nat}{k:Int}(h:1≤k):¬ (cj l i k).1=0:=by have:=Zl l i k h;omega
theorem Ey{l:List xh}{i:Nat}{e p:Int}(h:Th l i = .inr (e,p)):¬ e=0:=by unfold Th at h;exact fd
theorem lG{l:List xh}{s:List UInt8}{i:Nat}{e p:Int}(h:Oh l s i = .inr (e,p)):¬ e=0:=by unfold Oh at h;exact fd
theorem RA{l:List xh}{i:Nat}{e p:Int}(h:Gi l i = .inr (e,p)):¬ e=0:=by
 unfold Gi at h;split at h
 ·split at h;·cases h
  ·injection h with h;rw[show e=(cj l i 11).1 by rw[h]];exact Bv Uf
 ·injection h with h;rw[show e=(cj l i 5).1 by rw[h]];exact Bv Uf
theorem fG(l:List xh)(c:UInt8)(x:St)(i:Nat)(p:Int):match Rk l c x i with
  | .inl (y,j)=>Bi l ⟨x,i,0,p⟩ (au c)=⟨y,j,0,p⟩
  | .inr (a,b)=>(Bi l ⟨x,i,0,p⟩ (au c)).e=a∧(Bi l ⟨x,i,0,p⟩ (au c)).p=b∧(Bi l ⟨x,i,0,p⟩ (au c)).i=i∧¬ a=0:=by
 unfold Rk au
 by_cases A:c=114
 ·rw[if_pos A,if_pos A];cases hr:Th l i with
  |inl q=>obtain⟨s,j⟩:=q;simp only[Bi,hr,ri,if_pos]
  |inr q=>obtain⟨a,b⟩:=q;simp only[Bi,hr,ri,if_pos];exact⟨trivial,trivial,trivial,Ey hr⟩
 ·rw[if_neg A,if_neg A];by_cases E:c=110
  ·rw[if_pos E,if_pos E];cases hr:Th l i with
   |inl q=>obtain⟨s,j⟩:=q;simp only[Bi,hr,ri,if_pos]
   |inr q=>obtain⟨a,b⟩:=q;simp only[Bi,hr,ri,if_pos];exact⟨trivial,trivial,trivial,Ey hr⟩
  ·rw[if_neg E,if_neg E];by_cases G:c=101
   ·rw[if_pos G,if_pos G];cases hr:Ri l i with
    |inl q=>obtain⟨s,j⟩:=q;simp only[Bi,hr,ri,if_pos]
    |inr q=>obtain⟨a,b⟩:=q;simp only[Bi,hr,ri,if_pos];exact⟨trivial,trivial,trivial,(Wq hr).1⟩
   ·rw[if_neg G,if_neg G];by_cases H:c=102
    ·rw[if_pos H,if_pos H];cases hr:Ri l i with
     |inl q=>obtain⟨s,j⟩:=q;simp only[Bi,hr,ri,if_pos]
     |inr q=>obtain⟨a,b⟩:=q;simp only[Bi,hr,ri,if_pos];exact⟨trivial,trivial,trivial,(Wq hr).1⟩
    ·rw[if_neg H,if_neg H];cases hr:Gi l i with
     |inl q=>obtain⟨s,j⟩:=q;simp only[Bi,hr,ri,if_pos]
     |inr q=>obtain⟨a,b⟩:=q;simp only[Bi,hr,ri,if_pos];exact⟨trivial,trivial,trivial,RA hr⟩
theorem yG(l:List xh)(n:Nat)(x:St)(i:Nat)(p:Int):match zm l n i with
  | .inl (u,j)=>ki l ⟨x,i,0,p⟩ (fi n)=⟨x,j,0,p⟩
  | .inr (a,b)=>(ki l ⟨x,i,0,p⟩ (fi n)).e=a∧(ki l ⟨x,i,0,p⟩ (fi n)).p=b∧(ki l ⟨x,i,0,p⟩ (fi n)).i=i∧¬ a=0:=by
 unfold zm fi
 by_cases h:n=0
 ·rw[if_pos h,if_pos h];rfl
 ·rw[if_neg h,if_neg h];cases hr:Oh l (if n=1 then [61]else [44]) i with
  |inl q=>obtain⟨u,j⟩:=q;simp only[ki,pba,Bi,hr,ri,if_pos]
  |inr q=>obtain⟨a,b⟩:=q;simp only[ki,pba,Bi,hr,ri,if_pos];exact⟨trivial,trivial,trivial,lG hr⟩
theorem my(l:List xh):∀ (cs:List UInt8) (n:Nat) (x:St) (i:Nat) (p:Int),match Hi l cs n x i with
  | .inl (y,j)=>ki l ⟨x,i,0,p⟩ (Pj cs n)=⟨y,j,0,p⟩
  | .inr (a,b)=>(ki l ⟨x,i,0,p⟩ (Pj cs n)).e=a∧(ki l ⟨x,i,0,p⟩ (Pj cs n)).p=b∧¬ a=0
 | [],n,x,i,p=>by unfold Hi Pj;rfl
 |c::r,n,x,i,p=>by
  unfold Hi Pj
  have ha:=yG l n x i p
  have G:∀ σ,ki l σ (fi n++(au c::Pj r (n+1)))=ki l (Bi l (ki l σ (fi n)) (au c)) (Pj r (n+1)):=fun σ=>by unfold ki;rw[List.foldl_append];rfl
  rw[G]
  cases hr:zm l n i with
  |inr q =>obtain⟨a,b⟩:=q;rw[hr]at ha;simp only at ha ⊢;have H:=AA (l:=l) (σ:=ki l ⟨x,i,0,p⟩ (fi n)) (by rw[ha.1];exact ha.2.2.2) (au c);have E:=uz (l:=l) (Pj r (n+1)) (σ:=Bi l (ki l ⟨x,i,0,p⟩ (fi n)) (au c)) (by rw[H.1,ha.1];exact ha.2.2.2);exact⟨E.1.trans (H.1.trans ha.1),E.2.1.trans (H.2.1.trans ha.2.1),ha.2.2.2⟩
  |inl q =>
   obtain⟨u,j⟩:=q
   rw[hr]at ha
   simp only at ha ⊢
   rw[ha]
   have A:=fG l c x j p
   cases hq:Rk l c x j with
   |inr I =>obtain⟨a,b⟩:=I;rw[hq]at A;simp only at A ⊢;have E:=uz (l:=l) (Pj r (n+1)) (σ:=Bi l ⟨x,j,0,p⟩ (au c)) (by rw[A.1];exact A.2.2.2);exact⟨E.1.trans A.1,E.2.1.trans A.2.1,A.2.2.2⟩
   |inl I =>obtain⟨y,j2⟩:=I;rw[hq]at A;simp only at A ⊢;rw[A];exact my l r (n+1) y j2 p
def cn(n:Nat):List (List UInt8):=(Rh n).map sg
theorem nL(w:World)(A E G H I o6:Obj):Below w.heap.size w ((((((w.alloc A).alloc E).alloc G).alloc H).alloc I).alloc o6) :=
 bt (bt (bt (bt (bt (al _ _) (al _ _)) (al _ _)) (al _ _)) (al _ _)) (al _ _)
def sO(n:Nat):Obj:=.cells ((cn n).map fun t=>Value.string (vh t)).toArray 9
theorem rk(w:World)(n:Nat)(L:Nat)(h:(cn n).length=L):Tr (w.alloc (sO n)) (.slice (some ⟨w.heap.size,0,none⟩) L L) (cn n):=by
 subst h;have:=zk w ((cn n).flatMap Mh) 9 1 (cn n).length (cn n).length (bo Mh 1 (fun _=>rfl) _) (aaa _);have e:(cn n).flatMap Mh=(cn n).map fun t=>Value.string (vh t):=by
  induction cn n with
  |nil=>rfl
  |cons x r ih=>simp only[List.flatMap_cons,List.map_cons,ih];rfl
 unfold sO;rw[← e];exact this
theorem yK(n:Nat)(L:n<5)(w:World):Calls maa 217 #[] w fun e w'=>∃ b A c,e = .returned (.slice (some ⟨b,0,none⟩) 5 5)∧b<w'.heap.size∧w'.cell? ⟨b,n,none⟩=some (.slice A (cn n).length c)∧Tr w' (.slice A (cn n).length c) (cn n)∧Below w.heap.size w w':=by
 go_enter Tryz.func217,Tryz.ntmps217
 go_wp2_with fail
 go_ret
 have J:=rk w 0 1 rfl
 have E:=rk (w.alloc (sO 0)) 1 1 rfl
 have G:=rk ((w.alloc (sO 0)).alloc (sO 1)) 2 4 rfl
 have H:=rk (((w.alloc (sO 0)).alloc (sO 1)).alloc (sO 2)) 3 2 rfl
 have I:=rk ((((w.alloc (sO 0)).alloc (sO 1)).alloc (sO 2)).alloc (sO 3)) 4 3 rfl
 simp only[gba]at E G H I
 refine⟨w.heap.size+1+1+1+1+1,?_⟩
 match n,L with
 |0,_=>exact⟨some ⟨w.heap.size,0,none⟩,1,rfl,by simp only[gba];omega,by simp[go_sem,cn,Rh],(((((J.below (al _ _)).below (al _ _)).below (al _ _)).below (al _ _)).below (al _ _)),nL _ _ _ _ _ _ _⟩
 |1,_=>exact⟨some ⟨w.heap.size+1,0,none⟩,1,rfl,by simp only[gba];omega,by simp[go_sem,cn,Rh],((((E.below (al _ _)).below (al _ _)).below (al _ _)).below (al _ _)),nL _ _ _ _ _ _ _⟩
 |2,_=>exact⟨some ⟨w.heap.size+1+1,0,none⟩,4,rfl,by simp only[gba];omega,by simp[go_sem,cn,Rh],(((G.below (al _ _)).below (al _ _)).below (al _ _)),nL _ _ _ _ _ _ _⟩
 |3,_=>exact⟨some ⟨w.heap.size+1+1+1,0,none⟩,2,rfl,by simp only[gba];omega,by simp[go_sem,cn,Rh],((H.below (al _ _)).below (al _ _)),nL _ _ _ _ _ _ _⟩
 |4,_=>exact⟨some ⟨w.heap.size+1+1+1+1,0,none⟩,3,rfl,by simp only[gba];omega,by simp[go_sem,cn,Rh],(I.below (al _ _)),nL _ _ _ _ _ _ _⟩
def jQ:Value:=.agg #[.string ⟨#[]⟩,.string ⟨#[]⟩,.string ⟨#[]⟩,.string ⟨#[45]⟩,.string ⟨#[33]⟩,.string ⟨#[43]⟩,.string ⟨#[45]⟩,.string ⟨#[42]⟩,.string ⟨#[47]⟩,.string ⟨#[37]⟩,.string ⟨#[61,61]⟩,.string ⟨#[33,61]⟩,.string ⟨#[60]⟩,.string ⟨#[60,61]⟩,.string ⟨#[38,38]⟩,.string ⟨#[124,124]⟩]
theorem KE(w:World):Calls maa 171 #[] w fun e w'=>e = .returned jQ∧Below w.heap.size w w':=by
 go_enter Tryz.func171,Tryz.ntmps171;go_wp2_with fail;refine oj jQ rfl ?_ ?_;·exact⟨rfl,al _ _⟩
 ·simp[results,Tryz.results171,go_sem,jQ]
theorem iO(w:World):∀ (j:Nat),j<16→(Instr.index 181 jQ (.int .i64 (j:Int))).run maa w = .ok (.string (vh (sg j))) w
 |0,_=>by kernel_rfl
 |1,_=>by kernel_rfl
 |2,_=>by kernel_rfl
 |3,_=>by kernel_rfl
 |4,_=>by kernel_rfl
 |5,_=>by kernel_rfl
 |6,_=>by kernel_rfl
 |7,_=>by kernel_rfl
 |8,_=>by kernel_rfl
 |9,_=>by kernel_rfl
 |10,_=>by kernel_rfl
 |11,_=>by kernel_rfl
 |12,_=>by kernel_rfl
 |13,_=>by kernel_rfl
 |14,_=>by kernel_rfl
 |15,_=>by kernel_rfl
 |n+16,h=>by omega
theorem OL:∀ op:Fin 16,5≤op.val→∀ j:Fin 16,j.val<op.val→(sg j.val==sg op.val)=true→¬ (1:Int)<Lh (j.val:Int):=by decide +kernel
theorem cP(op:Nat)(h5:5≤op)(Y:op≤15)(w:World):Calls maa 220 #[.string (vh (sg op))] w fun e w'=>e = .returned (.int .i64 op)∧Below w.heap.size w w':=by
 have O:Hid (∀ (j:Nat) u,Calls maa 160 #[.int .i64 j] u fun e w'=>e = .returned (.int .i64 (Lh j))∧u=w'):=fun j u=>Rw _ u;have I:Hid (∀ j,j<op→(sg j==sg op)=true→¬ (1:Int)<Lh (j:Int)):=fun j Q h=>OL ⟨op,by omega⟩ h5 ⟨j,by omega⟩ Q h;have H:Hid (Lh (op:Int)=2):=Qo Tf Tf;go_enter Tryz.func220,Tryz.ntmps220;go_wp2_with (go_at_call 171;refine(KE _).mono ?_;rintro e w1 ⟨rfl,J⟩);go_loop [6] (fun k=>∃ j:Nat,j≤op∧k = .int .i64 j) (fun k=>16 - (intOf k).toNat);case atStart=>exact⟨0,laa _,rfl⟩
 case round =>
  obtain⟨j,Q,rfl⟩:=hrel;have L:=iO w1 j Tf;by_cases M:j=op
  ·subst M;have G:((vh (sg j)).toList==(vh (sg j)).toList)=true:=by simp
   have E:=O.out j;rw[H.out]at E;have A:=kaa E;clear E;generalize vh (sg j)=ss at L G;go_wp2_with (go_at_call 160;refine(A.out _).mono ?_;rintro e w' ⟨rfl,rfl⟩);go_ret;exact⟨rfl,J⟩
  ·cases G:((vh (sg j)).toList==(vh (sg op)).toList);·go_wp2_with fail;exact Kd
   ·have Z:=I.out j Tf (by rw[Ah,Ah]at G;exact G);have A:=kaa (O.out j);generalize Lh (j:Int)=kk at Z A;have e7:decide ((1:Int)<kk)=false:=by simp;omega
    go_wp2_with (go_at_call 160;refine(A.out _).mono ?_;rintro e w' ⟨rfl,rfl⟩);exact Kd
theorem vt(w:World)(n:Nat):Below w.heap.size w (w.drewN n):=⟨rfl,rfl,rfl,aaa _,fun _ _=>rfl⟩
theorem gO(l:List xh)(hl:l.length≤100000)(g E:Nat)(v:Value)(i:Nat)(d:Int)(s:List UInt8)(w:World)(H:Cj w g v i d 0 0)(G:Jm g v l w)(M:w.cell? ⟨E,0,none⟩=some (.pointer (some ⟨g,0,none⟩))):Calls maa 219 #[.string (vh s),.pointer (some ⟨E,0,none⟩)] w fun e w'=>e = .returned (.bool (Qh l i s))∧Below w.heap.size w w':=by have I:Hid (∀ n,Vi (w.drewN n) v l):=fun n=>(G.now H.lt).below (vt w n);have A:Hid (∀ u,Vi u v l→Calls maa 23 #[v,.int .i64 i,.string (vh s)] u fun e w'=>e = .returned (.bool (Qh l i s))∧w'=u):=fun u h=>(Tu l Tf i s v u h).mono fun _ _ ⟨J,L⟩=>⟨J,L.symm⟩;obtain⟨pl,p0,p1,p2,p3,p4,O,Q,Y,Z⟩:=H;clear G;generalize Qh l i s=b at A;go_enter Tryz.func219,Tryz.ntmps219;go_wp2_with fail;go_quiet (first|(go_at_call 23;exact Calls.quiet_of_same (A.out _ (I.out _))));go_wp2_with fail;go_ret;exact⟨rfl,vt _ _⟩
theorem PM(l:List xh)(hl:l.length≤100000)(g I:Nat)(v:Value)(i:Nat)(d:Int)(A:List (List UInt8))(fY:A.length≤1000)(h0:0<A.length)(V:Value)(w:World)(hV:Tr w V A)(hp:Cj w g v i d 0 0)(hc:Jm g v l w)(M:w.cell? ⟨I,0,none⟩=some (.pointer (some ⟨g,0,none⟩)))(e8:I<w.heap.size):Calls maa 155 #[V,.func (.func 219) #[] #[.pointer (some ⟨I,0,none⟩)]] w fun e w'=>Below w.heap.size w w'∧∃ z:Int,e = .returned (.int .i64 z)∧((z = -1∧∀ s∈A,Qh l i s=false)∨(∃ j:Nat,z=j∧∃ h:j<A.length,Qh l i (A[j])=true)):=by
 have HC:Hid (∀ s u,Below w.heap.size w u→Calls maa 219 #[.string (vh s),.pointer (some ⟨I,0,none⟩)] u fun e w'=>e = .returned (.bool (Qh l i s))∧Below u.heap.size u w'):=fun s u H =>
  gO l hl g I v i d s u (hp.below H) (hc.belowB (H.mono (nba hp.lt))) ((H.cell (p:=⟨I,0,none⟩) e8).trans M)
 obtain⟨b,off,c,rfl,fV,L,J⟩:=hV.at_ h0;have Y:=kaa J;clear J hV hp hc M;go_enter Tryz.func155,Tryz.ntmps155;go_wp2_with fail;go_loopw [8] (fun k wr=>∃ j:Nat,j≤A.length∧k = .int .i64 j∧Below w.heap.size w wr∧∀ j' (h:j'<A.length),j'<j→Qh l i (A[j'])=false) (fun k _=>A.length - (intOf k).toNat);case atStart=>exact⟨0,laa _,rfl,Gaa _ _,fun j' _ h=>absurd h Tf⟩
 case round =>
  obtain⟨j,hj,rfl,H,Q⟩:=hrel;have HNO:=kaa Q;have HB:=kaa H;clear Q;by_cases O:j<A.length
  ·have G:wr.cell? ⟨b,off+j,none⟩=some (.string (vh (A[j]))):=(H.cell (p:=⟨b,off+j,none⟩) L).trans (Y.out j O);have E:=kaa (HC.out (A[j]) wr H);have fT:=mba L H.size;clear H;have fU:(j:Int)<(A.length:Int):=by omega
   cases his:Qh l i (A[j])
   ·have HF:Hid (∀ j' (h:j'<A.length),j'<j+1→Qh l i (A[j'])=false):=fun j' h fX=>by exact Md
    rw[his]at E;clear his;generalize vh (A[j])=sj at G E;go_wp2_with (go_at_call 219;refine(E.out).mono ?_;rintro e w2 ⟨rfl,hb2⟩);exact ed
   ·have Z:=kaa his;rw[his]at E;clear his;generalize vh (A[j])=sj at G E;go_wp2_with (go_at_call 219;refine(E.out).mono ?_;rintro e w2 ⟨rfl,hb2⟩);go_ret;exact⟨bt HB.out hb2,j,rfl,.inr ⟨j,rfl,O,Z.out⟩⟩
  ·have fW:j=A.length:=by omega
   go_wp2_with fail;go_ret;refine⟨HB.out,-1,rfl,.inl ⟨rfl,fun s hs=>?_⟩⟩;obtain⟨j',e9,rfl⟩:=List.mem_iff_getElem.1 hs;exact HNO.out j' e9 Tf
end Go.Proofs.YtjcihcncljihoaaGreatDoor

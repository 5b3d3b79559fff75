/- Chapter 04 (statements), joined: ParC. -/
import Derived.Test.YtaoeaaebafcegaaGreatDoorPkA12
import Derived.Deep.RegionHeld3
set_option maxRecDepth 100000
set_option maxHeartbeats 400000
namespace Go.Proofs.YtaoeaaebafcegaaGreatDoor
open Go Go.RowKit
set_option linter.unusedVariables false
structure Blk4 (w:World) (g:Nat) (a b c d:Value):Prop where
 lt:g < w.heap.size
 c0:w.cell? ⟨g,0,none⟩=some a
 c1:w.cell? ⟨g,1,none⟩=some b
 c2:w.cell? ⟨g,2,none⟩=some c
 c3:w.cell? ⟨g,3,none⟩=some d
 f0:w.frozen? ⟨g,0,none⟩=false
 f1:w.frozen? ⟨g,1,none⟩=false
 f2:w.frozen? ⟨g,2,none⟩=false
 f3:w.frozen? ⟨g,3,none⟩=false
theorem Blk4.below {w w':World} {g:Nat} {a b c d:Value} (h:Blk4 w g a b c d) (hb:Below w.heap.size w w'):Blk4 w' g a b c d:=by
 have hs:=hb.size
 have hlt:=h.lt
 exact ⟨by omega,(hb.cell (p:=⟨g,0,none⟩) hlt).trans h.c0,(hb.cell (p:=⟨g,1,none⟩) hlt).trans h.c1,(hb.cell (p:=⟨g,2,none⟩) hlt).trans h.c2,(hb.cell (p:=⟨g,3,none⟩) hlt).trans h.c3,
  (hb.frozen (p:=⟨g,0,none⟩) hlt).trans h.f0,(hb.frozen (p:=⟨g,1,none⟩) hlt).trans h.f1,(hb.frozen (p:=⟨g,2,none⟩) hlt).trans h.f2,(hb.frozen (p:=⟨g,3,none⟩) hlt).trans h.f3⟩
theorem Blk4.new (w:World) (a b c d:Value) (t:TypeId):Blk4 (w.alloc (.cells #[a,b,c,d] t)) w.heap.size a b c d:=by
 obtain ⟨h0,h1,h2,h3,h4,h5,h6,h7,h8⟩:=tok_block (wr:=w) (a:=a) (b:=b) (c:=c) (d:=d) (t:=t) (Below.refl _ _)
 exact ⟨by omega,h1,h2,h3,h4,h5,h6,h7,h8⟩
theorem Blk4.set {w:World} {g:Nat} {a b c d:Value} (h:Blk4 w g a b c d) (a' b' c' d':Value) :
 Blk4 ((((w.setCell ⟨g,0,none⟩ a').setCell ⟨g,1,none⟩ b').setCell ⟨g,2,none⟩ c').setCell ⟨g,3,none⟩ d') g a' b' c' d':=by
 obtain ⟨hl,h0,h1,h2,h3,f0,f1,f2,f3⟩:=h
 refine ⟨by simpa [World.setCell] using hl,?_,?_,?_,?_,?_,?_,?_,?_⟩ <;> simp [*,go_sem]
theorem Blk4.away {w:World} {g k:Nat} {a b c d:Value} (h:Blk4 w g a b c d) (hk:k≠g) (o:Nat) (u:Value):Blk4 (w.setCell ⟨k,o,none⟩ u) g a b c d:=by
 obtain ⟨hl,h0,h1,h2,h3,f0,f1,f2,f3⟩:=h
 have hk':=Ne.symm hk
 refine ⟨by simpa [World.setCell] using hl,?_,?_,?_,?_,?_,?_,?_,?_⟩ <;> simp [*,go_sem]
def Fresh (B:Nat) (v:Value):Prop:=∀ ad n c,v = .slice (some ad) n c→B≤ad.block
theorem Fresh.mono {B B':Nat} {v:Value} (h:Fresh B v) (hb:B'≤B):Fresh B' v:=fun ad n c e=>Nat.le_trans hb (h ad n c e)
theorem Fresh.own {w:World} {base:Nat} {e:TypeId} {size:Nat} {v:Value} {n:Nat} {xs:List Value} (h:w.ownsRow base e size v n xs):Fresh base v:=fun ad m c hv=>by
 rcases h.2 with ⟨rfl,_⟩ | ⟨g,cap,cur,rfl,hg,_⟩
 ·cases hv
 ·cases hv;exact hg
theorem SlN.away {w:World} {v:Value} {size n:Nat} {cs:List Value} (h:SlN w v size n cs) {B g:Nat} (hf:Fresh B v) (hg:g < B) (o:Nat) (u:Value):SlN (w.setCell ⟨g,o,none⟩ u) v size n cs:=by
 obtain ⟨h1,A,c,rfl,hc,hr⟩:=h
 refine ⟨h1,A,c,rfl,hc,fun h0=>?_⟩
 obtain ⟨b,off,rfl,hlt,hcell⟩:=hr h0
 have hb:=hf _ _ _ rfl
 refine ⟨b,off,rfl,by simpa [World.setCell] using hlt,fun j x hj=>?_⟩
 rw [World.cell?_setCell_far _ _ _ _ (by show g≠b;have:B≤b:=hb;omega)]
 exact hcell j x hj
theorem SlN.away4 {w:World} {v:Value} {size n:Nat} {cs:List Value} (h:SlN w v size n cs) {B g:Nat} (hf:Fresh B v) (hg:g < B) (a b c d:Value) :
 SlN ((((w.setCell ⟨g,0,none⟩ a).setCell ⟨g,1,none⟩ b).setCell ⟨g,2,none⟩ c).setCell ⟨g,3,none⟩ d) v size n cs :=
 (((h.away hf hg 0 a).away hf hg 1 b).away hf hg 2 c).away hf hg 3 d
theorem below_set4 {B:Nat} {a w:World} (h:Below B a w) {g:Nat} (hp:B≤g) (x y z q:Value):Below B a ((((w.setCell ⟨g,0,none⟩ x).setCell ⟨g,1,none⟩ y).setCell ⟨g,2,none⟩ z).setCell ⟨g,3,none⟩ q) :=
 below_set (below_set (below_set (below_set h hp _) hp _) hp _) hp _
def RVal (B : Nat) (w : World) (r : Res) (L : Value) (t e p : Int) : Prop := match r with
  | .inl (x, t2) => t = t2 ∧ e = 0 ∧ p = 0 ∧ Nods w L x.flat ∧ Fresh B L
  | .inr (e2, p2) => L = .slice none 0 0 ∧ t = 0 ∧ e = e2 ∧ p = p2
def RPost (r:Res) (w:World) (e:Ending) (w':World):Prop :=
 Below w.heap.size w w'∧∃ (A:Option Addr) (n c:Nat) (t e1 p:Int),e = .returned (.agg #[.slice A n c,.int .i64 t,.int .i64 e1,.int .i64 p])∧RVal w.heap.size w' r (.slice A n c) t e1 p
theorem RVal.below {B:Nat} {w w':World} {r:Res} {L:Value} {t e p:Int} (h:RVal B w r L t e p) (hb:Below w.heap.size w w'):RVal B w' r L t e p:=by
 unfold RVal at h ⊢
 split
 ·exact ⟨h.1,h.2.1,h.2.2.1,h.2.2.2.1.below hb,h.2.2.2.2⟩
 ·exact h
theorem RVal.mono {B B':Nat} {w:World} {r:Res} {L:Value} {t e p:Int} (h:RVal B w r L t e p) (hb:B'≤B):RVal B' w r L t e p:=by
 unfold RVal at h ⊢
 split
 ·exact ⟨h.1,h.2.1,h.2.2.1,h.2.2.2.1,h.2.2.2.2.mono hb⟩
 ·exact h
theorem RVal.away4 {B g:Nat} {w:World} {r:Res} {L:Value} {t e p:Int} (h:RVal B w r L t e p) (hg:g < B) (a b c d:Value) :
 RVal B ((((w.setCell ⟨g,0,none⟩ a).setCell ⟨g,1,none⟩ b).setCell ⟨g,2,none⟩ c).setCell ⟨g,3,none⟩ d) r L t e p:=by
 unfold RVal at h ⊢
 split
 ·exact ⟨h.1,h.2.1,h.2.2.1,h.2.2.2.1.away4 h.2.2.2.2 hg a b c d,h.2.2.2.2⟩
 ·exact h
theorem ret_read {P:Program} {fn:Func} {R:Ending→World→Prop} {a:Act} {w:World} (v:Value) (hd:a.defers = []) (hR:R (.returned v) w) (hr:(results fn a.tmps).run P w = .ok v w):bodyPost P fn R .ret a w:=⟨hd,v,hr,hR⟩
theorem rfloor_zero (l:List Tok) (v:Value) (k d:Nat) (hd:d+k=12) (HP:∀ (i:Nat) (u:World),Toks u v l→Calls Tryz.prog 133 #[v,.int .i64 i,.int .i64 d] u (RPost (prR l k i) u))
 (i:Nat) (u:World) (hv:Toks u v l):Calls Tryz.prog 127 #[v,.int .i64 i,.int .i64 d,.int .i64 5] u (RPost (flR (prR l k) l 0 i) u):=by
 have HC:=Lib.hid (HP i _ (hv.below (al u (.cells #[.slice none 0 0,.int .i64 0,.int .i64 0,.int .i64 0] 128))))
 have HR:Hid (flR (prR l k) l 0 i=prR l k i):=rfl
 go_enter Tryz.func127,Tryz.ntmps127
 go_wp2_with (go_at_call 133;refine (HC.out).mono ?_;rintro e w1 ⟨hb1,A1,n1,c1,t,e1,p,rfl,hr⟩;obtain ⟨hl4,hc0,hc1,hc2,hc3,hf0,hf1,hf2,hf3⟩:=(Blk4.new u _ _ _ _ _).below hb1)
 refine ret_read (.agg #[.slice A1 n1 c1,.int .i64 t,.int .i64 e1,.int .i64 p]) rfl ?_ ?_
 ·refine ⟨below_set4 (bt (al _ _) hb1) (Nat.le_refl _) _ _ _ _,A1,n1,c1,t,e1,p,rfl,?_⟩
  rw [HR.out]
  rw [World.size_alloc] at hr
  exact (hr.away4 (Nat.lt_succ_self _) _ _ _ _).mono (Nat.le_succ _)
 ·simp [results,Tryz.results127,go_sem,hc0,hc1,hc2,hc3]
end Go.Proofs.YtaoeaaebafcegaaGreatDoor

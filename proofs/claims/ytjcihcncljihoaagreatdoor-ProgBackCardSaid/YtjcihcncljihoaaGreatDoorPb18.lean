/- Chapter 05 (programs), joined: SchO. -/
import Derived.Test.YtjcihcncljihoaaGreatDoorPb07
set_option maxRecDepth 100000
namespace Go.Proofs.YtjcihcncljihoaaGreatDoor
open Go Go.RowKit Go.Shelf
set_option linter.unusedVariables false
open _root_.Array renaming getElem?_eq_some_iff→zca
open Go.Fence renaming wide→jca
open Go.RowKit.Below renaming heap_setCell→xca
open Go.World renaming alloc_heap_new→yca,putObj_heap_other→wca,putObj_heap_same→Aca,setCell→eca
open Go.Proofs.Tryz renaming prog→maa
attribute [local go_sem] Oper.semAt_some
theorem me{P:Prop}(h:P:=by rw[World.putObj_heap_same (Array.getElem?_eq_some_iff.1 hl3).1,hrec];rfl):P:=h
theorem Vg{P:Prop}(h:P:=by have:=(Array.getElem?_eq_some_iff.1 hl).1;simpa using this):P:=h
structure wq (X:Nat→Prop) (W W':World):Prop where
 os:W'.os=W.os
 tape:W'.tape=W.tape
 output:W'.output=W.output
 size:W.heap.size≤W'.heap.size
 block:∀ k,k < W.heap.size→¬ X k→W'.heap[k]? = W.heap[k]?
theorem wq.putObj{X:Nat→Prop}(W:World){r:Nat}(h:X r)(o:Obj):wq X W (W.putObj r o) :=
 ⟨rfl,rfl,rfl,by simp,fun k _ A=>wca (fun e=>A (by rw[e];exact h))⟩
theorem wq.setCell{X:Nat→Prop}(W:World){b o:Nat}(h:X b)(u:Value):wq X W (W.setCell ⟨b,o,none⟩ u) :=
 ⟨rfl,rfl,rfl,by simp[eca],fun k _ A=>xca _ _ _ _ (fun e=>A (by rw[e];exact h))⟩
theorem wq.drew{X:Nat→Prop}(W:World):wq X W W.drew:=⟨rfl,rfl,rfl,Nat.le_refl _,fun _ _ _=>rfl⟩
def Yo(Bs D:Nat):Nat→Prop:=fun k=>k=Bs∨k=D∨k=D+1
def NR(W:World)(k:Nat):Prop:=∀ c A,W.heap[k]?≠some (.cells c 5 A)
theorem NR.loop{W:World}{k:Nat}{l:Loop}(h:W.heap[k]? = some (.loop l)):NR W k:=fun c A e=>by rw[h]at e;cases e
theorem NR.def_{W:World}{k:Nat}{d}(h:W.heap[k]? = some (.deferred d)):NR W k:=fun c A e=>by rw[h]at e;cases e
def jI(W:World)(Bs:Nat):Prop:=∃ c A,W.heap[Bs]? = some (.cells c 9 A)
theorem jI.nr{W:World}{Bs:Nat}(h:jI W Bs):NR W Bs:=fun c A e=>by obtain⟨c2,f2,h⟩:=h;rw[h]at e;injection e with e;injection e with _ e _;exact absurd e Uf
theorem jI.blk{W W':World}{Bs:Nat}(h:jI W Bs)(e:W'.heap[Bs]? = W.heap[Bs]?):jI W' Bs:=by obtain⟨c,f,h⟩:=h;exact⟨c,f,e.trans h⟩
theorem jI.set{W:World}{Bs o:Nat}(h:jI W Bs)(u:Value):jI (W.setCell ⟨Bs,o,none⟩ u) Bs:=by obtain⟨c,f,h⟩:=h;exact⟨c.setIfInBounds o u,f,by simp[eca,Array.getElem?_modify,h]⟩
theorem ro{W:World}{Bs D:Nat}(A:jI W Bs)(E:∃ d,W.heap[D]? = some (.deferred d))(G:∃ l,W.heap[D+1]? = some (.loop l)):∀ k,Yo Bs D k→NR W k:=by
 rintro k (rfl|rfl|rfl);·exact A.nr
 ·exact NR.def_ E.choose_spec
 ·exact NR.loop G.choose_spec
def EM(Bs D:Nat)(I:List (List UInt8)→World→Prop)(A:World→Prop)(E:List (List UInt8))(W:World):Exit→Act→World→Prop
 | .normal,_,W'=>(∀ k,Yo Bs D k→W'.heap[k]? = W.heap[k]?)∧I E W'
 | .ret,_,W'=>(∀ k,Yo Bs D k→W'.heap[k]? = W.heap[k]?)∧A W'
 |_,_,_=>False
theorem bB{g:Operand}{ps:Array Tmp}{G body:Code}{Q:Exit→Act→World→Prop}{a:Act}{w:World}(n:Nat)(hn:2≤n)(Bs:Nat)
 (hg:a.eval g = .func (.func 169) #[] #[.pointer (some ⟨Bs,0,none⟩)]) (a2:ps.size=1) (s:List UInt8) (hs:s.length≤1000000)
 (hc:w.cell? ⟨Bs,0,none⟩=some (.string (vh s))) (hf:w.frozen? ⟨Bs,0,none⟩=false) (hB:Bs<w.heap.size)
 (I:List (List UInt8)→World→Prop) (Ix:World→Prop)
 (a1:jI w Bs) (hI:∀ E W W',I E W→wq (Yo Bs w.heap.size) W W'→(∀ k,Yo Bs w.heap.size k→NR W' k)→I E W') (aY:∀ W W',Ix W→wq (Yo Bs w.heap.size) W W'→Ix W')
 (h0:∀ o1 o2,(∀ k,Yo Bs w.heap.size k→NR ((w.alloc o1).alloc o2) k)→I [] ((w.alloc o1).alloc o2)) (a₁:List UInt8→Act)
 (L:∀ (x:List UInt8) (W:World) (K:Act→World→Prop),K (a₁ x) W →
  G.wpIn (jca.inRound (w.heap.size+1)) (n - 1 - 1) maa (Exit.then K (fun _ _ _=>False)) { tmps:=(ps.zip #[.string (vh x)]).foldl (fun t (p,v)=>t.setIfInBounds p v) a.tmps,defers:=[] } W)
 (av:∀ (E:List (List UInt8)) (x:List UInt8) (W:World),(E++[x]) <+: Kj s→I E W→w.heap.size+1<W.heap.size→(∀ k,Yo Bs w.heap.size k→NR W k) →
  body.wpIn (jca.inRound (w.heap.size+1)) (n - 1 - 1) maa (EM Bs w.heap.size I Ix (E++[x]) W) (a₁ x) W)
 (aT:∀ W,I (Kj s) W→W.heap[w.heap.size]? = some (.deferred (some []))→w.heap.size+1<W.heap.size→Q .normal { a with defers:={ target:=.collected w.heap.size,args:=#[] } :: a.defers } W)
 (aX:∀ W,Ix W→W.heap[w.heap.size]? = some (.deferred (some []))→w.heap.size+1<W.heap.size→Code.ret.wpIn jca n maa Q { a with defers:={ target:=.collected w.heap.size,args:=#[] } :: a.defers } W) :
 (Code.rangeFunc g ps G body).wpIn jca n maa Q a w:=by
 refine wpIn_rangeFunc fun fn _=>?_
 show ∃ _,_
 obtain⟨A,hrec⟩:∃ A:LoopState→Option Code→Loop,A=fun st pe=>{ state:=st,pending:=pe,fn,tmps:=a.tmps,params:=ps,assign:=G,body,defers:=w.heap.size }:=⟨_,rfl⟩
 obtain⟨M,J⟩:∃ M,(w.alloc (.deferred (some []))).alloc (.loop (A .ready none))=M:=⟨_,rfl⟩
 have a0:M.heap[w.heap.size+1]? = some (.loop (A .ready none)):=by rw[← J];have:=yca (w.alloc (.deferred (some []))) (.loop (A .ready none));rwa [World.size_alloc]at this
 have aZ:M.heap[w.heap.size]? = some (.deferred (some [])):=by rw[← J];exact(Below.heap_alloc _ _ _ Yf).trans (yca w _)
 have O:Below w.heap.size w M:=by rw[← J];exact ii (al w _) _
 have hD:∀ st pe,(Obj.loop (A st pe)).isCells=false:=fun _ _=>rfl
 refine⟨w.heap.size+1,[{ target:=.collected w.heap.size,args:=#[] }],M,{ target:=.fn (.func 169) #[.pointer (some ⟨Bs,0,none⟩)],args:=#[.func (.yield (w.heap.size+1)) #[] #[]] },M,169,
  #[.func (.yield (w.heap.size+1)) #[] #[]]++#[.pointer (some ⟨Bs,0,none⟩)],M,?_,?_,?_,?_,fun _=>by omega,?_⟩
 ·rw[← J,hrec];exact run_enterLoop_outer _ _ _ _ _
 ·simp only[resolve,hg];simp[go_sem]
 ·intro f' _;trivial
 ·have eg:∀ args w,(callFunc 169 args).run maa w = .ok (.enter 169 args) w:=enters_of Tryz.func169 Vf rfl;simp[invoke,go_sem,eg]
 ·have ad:∀ (W:World) (st:LoopState) (pe:Option Code),st≠.busy→W.heap[w.heap.size+1]? = some (.loop (A st pe))→W.heap[w.heap.size]? = some (.deferred (some [])) →
   ∃ o,(∃ l,o = .loop l)∧(Instr.endLoop (w.heap.size+1)).run maa W = .ok pe (W.putObj (w.heap.size+1) o)∧(W.putObj (w.heap.size+1) o).heap[w.heap.size]? = some (.deferred (some [])):=fun W st pe a4 hl hk=>by
   have h:=run_endLoop (P:=maa) hl (by rw[hrec];exact a4)
   have e:(A st pe).pending=pe:=by rw[hrec]
   exact⟨_,⟨_,rfl⟩,by rw[h,e],(wca Tf).trans hk⟩
  refine(tH (n - 1) Tf (w.heap.size+1) Bs s hs
   (fun E W=>I E W∧W.heap[w.heap.size+1]? = some (.loop (A .ready none))∧W.heap[w.heap.size]? = some (.deferred (some []))∧jI W Bs)
   (fun _ W=>Ix W∧W.heap[w.heap.size+1]? = some (.loop (A .done (some .ret)))∧W.heap[w.heap.size]? = some (.deferred (some [])))
   (fun E W u h=>by have e1:=(xca W ⟨Bs,0,none⟩ u (w.heap.size+1) (by show _≠Bs;omega)).trans h.2.1;have e2:=(xca W ⟨Bs,0,none⟩ u w.heap.size (by show _≠Bs;omega)).trans h.2.2.1;exact⟨hI _ _ _ h.1 (wq.setCell W (.inl rfl) u) (ro (h.2.2.2.set u) ⟨_,e2⟩ ⟨_,e1⟩),e1,e2,h.2.2.2.set u⟩)
   (fun E W h=>⟨hI _ _ _ h.1 (wq.drew W) (ro (h.2.2.2.blk rfl) ⟨_,h.2.2.1⟩ ⟨_,h.2.1⟩),h.2.1,h.2.2.1,h.2.2.2.blk rfl⟩)
   ?_ M ((O.cell (p:=⟨Bs,0,none⟩) hB).trans hc) ((O.frozen (p:=⟨Bs,0,none⟩) hB).trans hf) ⟨by have:=ro (a1.blk (O.block Bs hB)) ⟨_,aZ⟩ ⟨_,a0⟩;rw[← J]at this ⊢;exact h0 _ _ this,a0,aZ,a1.blk (O.block Bs hB)⟩).mono ?_
  ·rintro E x W ao ⟨hi,hl,hk,Y⟩;have hlt:w.heap.size+1<W.heap.size:=(zca.1 hl).1;have hy:=run_yield (P:=maa) (args:=#[.string (vh x)]) hl (by rw[hrec];exact a2.symm);rw[hrec]at hy;refine⟨fn,_,G,body,hy,roundIn_of_wpIn trivial (L x W _ ⟨_,run_beginRound hl (by rw[hrec]),?_⟩)⟩;have aW:(W.putObj (w.heap.size+1) (.loop { A .ready none with state:=.busy })).heap[w.heap.size+1]? = some (.loop { A .ready none with state:=.busy }):=Aca hlt;have aV:(W.putObj (w.heap.size+1) (.loop { A .ready none with state:=.busy })).heap[w.heap.size]? = some (.deferred (some [])):=(wca Tf).trans hk;have Z:(W.putObj (w.heap.size+1) (.loop { A .ready none with state:=.busy })).heap[Bs]? = W.heap[Bs]?:=wca Tf;have af:=ro (Y.blk Z) ⟨_,aV⟩ ⟨_,aW⟩;refine wpIn_mono (av E x _ ao (hI _ _ _ hi (wq.putObj W (.inr (.inr rfl)) _) af) Pg af) ?_;rintro e a3 W3 hp;cases e with
   |normal =>
    obtain⟨H,aU⟩:=hp;have hl3:=(H _ (.inr (.inr rfl))).trans aW;have hr:=run_endRound (P:=maa) none hl3;have q2:∀ l:Loop,(W3.putObj (w.heap.size+1) (.loop l)).heap[w.heap.size]? = some (.deferred (some [])):=fun l=>(wca Tf).trans ((H _ (.inr (.inl rfl))).trans aV);have q1:∀ l:Loop,(W3.putObj (w.heap.size+1) (.loop l)).heap[w.heap.size+1]? = some (.loop l):=fun l=>Aca (zca.1 hl3).1;have q3:∀ l:Loop,jI (W3.putObj (w.heap.size+1) (.loop l)) Bs:=fun l=>Y.blk ((wca Tf).trans ((H _ (.inl rfl)).trans Z));refine⟨_,_,hr,.inl ⟨rfl,⟨hI _ _ _ aU (wq.putObj W3 (.inr (.inr rfl)) _) (ro (q3 _) ⟨_,q2 _⟩ ⟨_,q1 _⟩),?_,q2 _,q3 _⟩,?_,?_⟩⟩;·exact me
    ·exact World.cell?_of_block (a:=⟨Bs,0,none⟩) ((wca (by show Bs≠_;omega)).trans ((H _ (.inl rfl)).trans Z))
    ·exact World.frozen?_of_block (a:=⟨Bs,0,none⟩) ((wca (by show Bs≠_;omega)).trans ((H _ (.inl rfl)).trans Z))
   |ret =>obtain⟨H,aU⟩:=hp;have hl3:=(H _ (.inr (.inr rfl))).trans aW;have hr:=run_endRound (P:=maa) (some .ret) hl3;refine⟨_,_,hr,.inr ⟨rfl,aY _ _ aU (wq.putObj W3 (.inr (.inr rfl)) _),?_,(wca Tf).trans ((H _ (.inr (.inl rfl))).trans aV)⟩⟩;exact me
   |exit id=>exact hp.elim
   |goto t=>exact hp.elim
   |panic ch=>exact hp.elim
   |outgrown=>exact hp.elim
  ·rintro e W2 ⟨⟨v,rfl⟩,(⟨hi,hl,hk,Y⟩|⟨E,ao,hi,hl,hk⟩)⟩;·obtain⟨o,⟨lp,rfl⟩,h1,h2⟩:=ad W2 .ready none Yf hl hk;exact⟨none,_,h1,aT _ (hI _ _ _ hi (wq.putObj W2 (.inr (.inr rfl)) _) (ro (Y.blk (wca Tf)) ⟨_,h2⟩ ⟨_,Aca (zca.1 hl).1⟩)) h2 Vg⟩
   ·obtain⟨o,_,h1,h2⟩:=ad W2 .done (some .ret) Yf hl hk;exact⟨some .ret,_,h1,aX _ (aY _ _ hi (wq.putObj W2 (.inr (.inr rfl)) _)) h2 Vg⟩
end Go.Proofs.YtjcihcncljihoaaGreatDoor

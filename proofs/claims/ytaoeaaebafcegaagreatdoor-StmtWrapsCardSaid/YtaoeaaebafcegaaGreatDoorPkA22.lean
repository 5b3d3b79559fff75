/- Chapter 04 (statements), joined: StmB, StmD, StmE, StmG, SchOff, SchApp, StmH, StmI, StmJ, StmK. -/
import Derived.Test.YtaoeaaebafcegaaGreatDoorPkA14
import Derived.Test.YtaoeaaebafcegaaGreatDoorPkA20
import Derived.Test.YtaoeaaebafcegaaGreatDoorPkA21
set_option maxRecDepth 100000
set_option maxHeartbeats 2000000
namespace Go.Proofs.YtaoeaaebafcegaaGreatDoor
open Go Go.RowKit
set_option linter.unusedVariables false
theorem after_ok {α:Type} {p:Int} {i:Nat} {r:RS α} {x:α} {j:Nat} {d:α} (h:r = .inl (x,j)):After 0 p i r d=(x,j,0,p):=by subst h;rfl
theorem after_bad {α:Type} {p:Int} {i:Nat} {r:RS α} {l:List Tok} {k:Int} {d:α} (h:r = .inr (badR l i k)):After 0 p i r d=(d,i,wE l i 0 k,wP l i 0 p):=by subst h;rfl
def isStr (w:World) (x:Value) (s:List UInt8):Prop:=x = .string (str s)
def isInt (w:World) (x:Value) (n:Int):Prop:=x = .int .i64 n
theorem Ctx.at_ {g:Nat} {v:Value} {l:List Tok} {w:World} (h:Ctx g v l w) (h0:0 < l.length) :
 ∃ b off c,v = .slice (some ⟨b,off,none⟩) l.length c∧l.length≤c∧b < g∧∀ u,Below g w u→∀ i (hi:i < l.length),TokAt u b (off+i*4) l[i]:=by
 obtain ⟨_,A,c,hv,hc,hf⟩:=h.toks
 obtain ⟨b,off,hA,hlt,hcell⟩:=hf h0
 subst hA
 refine ⟨b,off,c,hv,hc,hlt,fun u hu i hi=>?_⟩
 have hg:=fun k hk=>flat_getElem Tok.cells 4 Tok.cells_len l i k hi hk
 have hx:=fun j x (hj:(l.flatMap Tok.cells)[j]? = some x)=>(hu.cell (p:=⟨b,off+j,none⟩) hlt).trans (hcell j x hj)
 exact ⟨hx _ _ (hg 0 (by omega)),hx _ _ (hg 1 (by omega)),hx _ _ (hg 2 (by omega)),hx _ _ (hg 3 (by omega))⟩
theorem exprR_ok {l : List Tok} {i : Nat} {x : List Nod} {j : Nat} (h : exprR l i = .inl (x, j)) : parE l i = (x, (j : Int), 0, 0) := by
  obtain ⟨_, _, e, _, hx, hr, h12, h40⟩ := exprR_good h
  have hP : parE l i = match flR (prR l 12) l 5 i with
      | .inr (e, p) => ([], 0, e, p)
      | .inl (x, t) => if 12 < x.deep then ([], 0, 7, (tk l i).pos) else if 40 < x.flat.length then ([], 0, 2, (tk l i).pos) else (x.flat, (t : Int), 0, 0) := by
    unfold parE; rw [if_neg (by omega)]; rfl
  rw [hP, hr, hx]
  simp only
  rw [if_neg (by omega), if_neg (by omega)]
theorem exprR_err {l:List Tok} {i:Nat} {e p:Int} (h:exprR l i = .inr (e,p)):¬ e=0∧∃ a b,parE l i=(a,b,e,p):=by
 obtain ⟨h0,h1,h2⟩:=exprR_bad h
 refine ⟨h0,(parE l i).1,(parE l i).2.1,?_⟩
 rw [← h1,← h2]
def stV (x:St) (ev fv:Value):Value:=.agg #[.int .i64 x.kind,.string (str x.reg),.string (str x.name),ev,fv,.int .i64 x.n,.int .i64 x.body,.int .i64 x.els,.int .i64 x.pos]
structure SB (w:World) (b:Nat) (x:St) (ev fv:Value):Prop where
 lt:b < w.heap.size
 c0:w.cell? ⟨b,0,none⟩=some (.int .i64 x.kind)
 c1:w.cell? ⟨b,1,none⟩=some (.string (str x.reg))
 c2:w.cell? ⟨b,2,none⟩=some (.string (str x.name))
 c3:w.cell? ⟨b,3,none⟩=some (ev)
 c4:w.cell? ⟨b,4,none⟩=some (fv)
 c5:w.cell? ⟨b,5,none⟩=some (.int .i64 x.n)
 c6:w.cell? ⟨b,6,none⟩=some (.int .i64 x.body)
 c7:w.cell? ⟨b,7,none⟩=some (.int .i64 x.els)
 c8:w.cell? ⟨b,8,none⟩=some (.int .i64 x.pos)
 fr:∀ j,w.frozen? ⟨b,j,none⟩=false
theorem SB.keep {w w':World} {b g:Nat} {x:St} {ev fv:Value} (h:SB w b x ev fv) (hk:Keep g w w') (hne:b≠g):SB w' b x ev fv:=by
 have hb:=hk.block b h.lt hne
 have e:=fun j y (hc:w.cell? ⟨b,j,none⟩=some y)=>(World.cell?_of_block (a:=⟨b,j,none⟩) hb).trans hc
 exact ⟨Nat.lt_of_lt_of_le h.lt hk.size,e _ _ h.c0,e _ _ h.c1,e _ _ h.c2,e _ _ h.c3,e _ _ h.c4,e _ _ h.c5,e _ _ h.c6,e _ _ h.c7,e _ _ h.c8,fun j=>(World.frozen?_of_block (a:=⟨b,j,none⟩) hb).trans (h.fr j)⟩
theorem SB.drewN {w:World} {b:Nat} {x:St} {ev fv:Value} (h:SB w b x ev fv) (n:Nat):SB (w.drewN n) b x ev fv:=h.keep ((Keep.refl (b+1) w).drewN n) (by omega)
theorem sb_new (w:World) (x:St) (ev fv:Value):SB (w.alloc (.cells #[.int .i64 x.kind,.string (str x.reg),.string (str x.name),ev,fv,.int .i64 x.n,.int .i64 x.body,.int .i64 x.els,.int .i64 x.pos] 31)) w.heap.size x ev fv :=
 ⟨by rw [World.size_alloc];omega,cells_new _ _ _ _ _ rfl,cells_new _ _ _ _ _ rfl,cells_new _ _ _ _ _ rfl,cells_new _ _ _ _ _ rfl,cells_new _ _ _ _ _ rfl,cells_new _ _ _ _ _ rfl,cells_new _ _ _ _ _ rfl,cells_new _ _ _ _ _ rfl,cells_new _ _ _ _ _ rfl,fun j=>by simp⟩
theorem SB.setReg {w:World} {b:Nat} {x:St} {ev fv:Value} (h:SB w b x ev fv) (s:List UInt8):SB (w.setCell ⟨b,1,none⟩ (.string (str s))) b { x with reg:=s } ev fv :=
 ⟨by simpa [World.setCell] using h.lt,by simp [World.cell?_setCell_other];exact h.c0,by simp [World.cell?_setCell_same',h.c1],by simp [World.cell?_setCell_other];exact h.c2,by simp [World.cell?_setCell_other];exact h.c3,by simp [World.cell?_setCell_other];exact h.c4,by simp [World.cell?_setCell_other];exact h.c5,by simp [World.cell?_setCell_other];exact h.c6,by simp [World.cell?_setCell_other];exact h.c7,by simp [World.cell?_setCell_other];exact h.c8,fun j=>by simpa using h.fr j⟩
theorem SB.setName {w:World} {b:Nat} {x:St} {ev fv:Value} (h:SB w b x ev fv) (s:List UInt8):SB (w.setCell ⟨b,2,none⟩ (.string (str s))) b { x with name:=s } ev fv :=
 ⟨by simpa [World.setCell] using h.lt,by simp [World.cell?_setCell_other];exact h.c0,by simp [World.cell?_setCell_other];exact h.c1,by simp [World.cell?_setCell_same',h.c2],by simp [World.cell?_setCell_other];exact h.c3,by simp [World.cell?_setCell_other];exact h.c4,by simp [World.cell?_setCell_other];exact h.c5,by simp [World.cell?_setCell_other];exact h.c6,by simp [World.cell?_setCell_other];exact h.c7,by simp [World.cell?_setCell_other];exact h.c8,fun j=>by simpa using h.fr j⟩
theorem SB.setE {w:World} {b:Nat} {x:St} {ev fv:Value} (h:SB w b x ev fv) (l:List Nod) (u:Value):SB (w.setCell ⟨b,3,none⟩ u) b { x with e:=l } u fv :=
 ⟨by simpa [World.setCell] using h.lt,by simp [World.cell?_setCell_other];exact h.c0,by simp [World.cell?_setCell_other];exact h.c1,by simp [World.cell?_setCell_other];exact h.c2,by simp [World.cell?_setCell_same',h.c3],by simp [World.cell?_setCell_other];exact h.c4,by simp [World.cell?_setCell_other];exact h.c5,by simp [World.cell?_setCell_other];exact h.c6,by simp [World.cell?_setCell_other];exact h.c7,by simp [World.cell?_setCell_other];exact h.c8,fun j=>by simpa using h.fr j⟩
theorem SB.setF {w:World} {b:Nat} {x:St} {ev fv:Value} (h:SB w b x ev fv) (l:List Nod) (u:Value):SB (w.setCell ⟨b,4,none⟩ u) b { x with f:=l } ev u :=
 ⟨by simpa [World.setCell] using h.lt,by simp [World.cell?_setCell_other];exact h.c0,by simp [World.cell?_setCell_other];exact h.c1,by simp [World.cell?_setCell_other];exact h.c2,by simp [World.cell?_setCell_other];exact h.c3,by simp [World.cell?_setCell_same',h.c4],by simp [World.cell?_setCell_other];exact h.c5,by simp [World.cell?_setCell_other];exact h.c6,by simp [World.cell?_setCell_other];exact h.c7,by simp [World.cell?_setCell_other];exact h.c8,fun j=>by simpa using h.fr j⟩
theorem SB.setN {w:World} {b:Nat} {x:St} {ev fv:Value} (h:SB w b x ev fv) (n:Int):SB (w.setCell ⟨b,5,none⟩ (.int .i64 n)) b { x with n:=n } ev fv :=
 ⟨by simpa [World.setCell] using h.lt,by simp [World.cell?_setCell_other];exact h.c0,by simp [World.cell?_setCell_other];exact h.c1,by simp [World.cell?_setCell_other];exact h.c2,by simp [World.cell?_setCell_other];exact h.c3,by simp [World.cell?_setCell_other];exact h.c4,by simp [World.cell?_setCell_same',h.c5],by simp [World.cell?_setCell_other];exact h.c6,by simp [World.cell?_setCell_other];exact h.c7,by simp [World.cell?_setCell_other];exact h.c8,fun j=>by simpa using h.fr j⟩
theorem Keep.above {g q:Nat} {a b:World} (h:Keep g a b) (hq:a.heap.size≤q) (o:Nat) (u:Value):Keep g a (b.setCell ⟨q,o,none⟩ u) :=
 ⟨h.os,h.tape,h.output,by rw [World.size_setCell];exact h.size,fun k hk hne=>(Below.heap_setCell _ _ _ _ (fun e=>by simp only at e;omega)).trans (h.block k hk hne)⟩
theorem after_i {α:Type} {e p:Int} {i:Nat} {r:RS α} {d:α} {n:Nat} (hi:i≤n) (hr:∀ x j,r = .inl (x,j)→j≤n):(After e p i r d).2.1≤n:=by
 unfold After
 split
 ·split
  ·exact hr _ _ rfl
  ·exact hi
 ·exact hi
theorem must_after {l:List Tok} {s:List UInt8} {i:Nat} {e p:Int}:(mI l s i e,mE l s i e,mP l s i e p)=(After e p i (signR l s i) ()).2:=by
 unfold mI mE mP After signR
 by_cases he:e=0
 ·subst he
  by_cases hs:isE l i s=true
  ·simp [hs]
  ·simp [hs,wE,wP,badR]
 ·simp [he,wE,wP]
def Off (S:Nat→Prop) (w:World) (Q:World→Prop):Prop:=∀ w':World,w.heap.size≤w'.heap.size→(∀ k,k < w.heap.size→¬ S k→w'.heap[k]? = w.heap[k]?)→Q w'
theorem Off.now {S:Nat→Prop} {w:World} {Q:World→Prop} (h:Off S w Q):Q w:=h w (Nat.le_refl _) (fun _ _ _=>rfl)
theorem Off.step {S S':Nat→Prop} {w w':World} {Q:World→Prop} (h:Off S w Q) (hs:w.heap.size≤w'.heap.size) (hk:∀ k,k < w.heap.size→¬ S k→w'.heap[k]? = w.heap[k]?) (hS:∀ k,k < w.heap.size→S' k→S k):Off S' w' Q :=
 fun w'' h1 h2=>h w'' (Nat.le_trans hs h1) (fun k hlt hn=>(h2 k (by omega) (fun e=>hn (hS k hlt e))).trans (hk k hlt hn))
theorem Off.below {S:Nat→Prop} {w w':World} {Q:World→Prop} (h:Off S w Q) (hb:Below w.heap.size w w'):Off S w' Q :=
 h.step hb.size (fun k hk _=>hb.block k hk) (fun _ _ e=>e)
theorem Off.mono {S S':Nat→Prop} {w:World} {Q:World→Prop} (h:Off S w Q) (hS:∀ k,k < w.heap.size→S' k→S k):Off S' w Q :=
 h.step (Nat.le_refl _) (fun _ _ _=>rfl) hS
theorem Off.setCell {S:Nat→Prop} {w:World} {Q:World→Prop} (h:Off S w Q) (p:Addr) (hp:S p.block) (u:Value):Off S (w.setCell p u) Q :=
 h.step (by simp [World.setCell]) (fun k _ hn=>Below.heap_setCell _ _ _ _ (fun e=>hn (by rw [e];exact hp))) (fun _ _ e=>e)
def ownS (v:Value):Nat→Prop:=fun k=>v.ownBlock=some k
theorem Off.app {v v':Value} {w w':World} {Q:World→Prop} (h:Off (ownS v) w Q) (hg:w.grownBy w' v.ownBlock) (hat:v'.ownBlock=v.ownBlock∨v'.ownBlock=some w.heap.size):Off (ownS v') w' Q :=
 h.step hg.size (fun k hk hn=>hg.block k hk (fun e=>hn e.symm)) (fun k hk (e:v'.ownBlock=some k)=>by
  rcases hat with h1 | h1
  ·exact h1.symm.trans e
  ·rw [h1] at e;injection e with e;omega)
theorem Off.app2 {T:Nat→Prop} {v v':Value} {w w':World} {Q:World→Prop} (h:Off (fun k=>v.ownBlock=some k∨T k) w Q) (hg:w.grownBy w' v.ownBlock) (hat:v'.ownBlock=v.ownBlock∨v'.ownBlock=some w.heap.size):Off (fun k=>v'.ownBlock=some k∨T k) w' Q :=
 h.step hg.size (fun k hk hn=>hg.block k hk (fun e=>hn (.inl e.symm))) (fun k hk e=>by
  rcases e with e | e
  ·rcases hat with h1 | h1
   ·exact .inl (h1.symm.trans e)
   ·rw [h1] at e;injection e with e;omega
  ·exact .inr e)
structure Sv where
 s:St
 ev:Value
 fv:Value
def Sv.cells (x:Sv):List Value:=[.int .i64 x.s.kind,.string (str x.s.reg),.string (str x.s.name),x.ev,x.fv,.int .i64 x.s.n,.int .i64 x.s.body,.int .i64 x.s.els,.int .i64 x.s.pos]
theorem Sv.cells_len (x:Sv):x.cells.length=9:=rfl
structure SOwn (T:Nat→Prop) (B:Nat) (w:World) (v:Value) (pl:List Sv):Prop where
 own:w.ownsRow B 31 9 v pl.length (pl.flatMap Sv.cells)
 nods:∀ x∈pl,Off (fun k=>v.ownBlock=some k∨T k) w (fun u=>Nods u x.ev x.s.e∧Nods u x.fv x.s.f)
theorem SOwn.below {T:Nat→Prop} {B:Nat} {w w':World} {v:Value} {pl:List Sv} (h:SOwn T B w v pl) (hb:Below w.heap.size w w'):SOwn T B w' v pl :=
 ⟨own_below h.own hb,fun x hx=>(h.nods x hx).below hb⟩
theorem row_keep {g:Nat} {w w':World} {B:Nat} {e:TypeId} {size:Nat} {v:Value} {n:Nat} {xs:List Value} (h:w.ownsRow B e size v n xs) (hne:v.ownBlock≠some g) (hk:∀ k,k < w.heap.size→k≠g→w'.heap[k]? = w.heap[k]?):w'.ownsRow B e size v n xs:=by
 refine ⟨h.1,?_⟩
 rcases h.2 with h2 | ⟨q,cap,cur,hv,hq,hh,r⟩
 ·exact .inl h2
 ·refine .inr ⟨q,cap,cur,hv,hq,?_,r⟩
  have hlt:q < w.heap.size:=by
   rcases Nat.lt_or_ge q w.heap.size with hlt | hge
   ·exact hlt
   ·rw [Array.getElem?_eq_none hge] at hh;cases hh
  exact (hk q hlt (fun e=>hne (by rw [hv,← e];rfl))).trans hh
theorem SOwn.app {T:Nat→Prop} {B:Nat} {w w':World} {v v':Value} {pl:List Sv} (h:SOwn T B w v pl) (x:Sv) (hx:Off (fun k=>v.ownBlock=some k∨T k) w (fun u=>Nods u x.ev x.s.e∧Nods u x.fv x.s.f)) (hown:w'.ownsRow B 31 9 v' (pl.length+1) (pl.flatMap Sv.cells++[x].flatMap Sv.cells)) (hg:w.grownBy w' v.ownBlock) (hat:v'.ownBlock=v.ownBlock∨v'.ownBlock=some w.heap.size):SOwn T B w' v' (pl++[x]):=by
 refine ⟨by rw [List.length_append,List.flatMap_append];exact hown,fun y hy=>?_⟩
 rcases List.mem_append.1 hy with hy | hy
 ·exact (h.nods y hy).app2 hg hat
 ·simp only [List.mem_cons,List.not_mem_nil,or_false] at hy
  subst hy
  exact hx.app2 hg hat
theorem info_stmt:(Tryz.prog.info? 31).map (fun i=>(i.zero,i.size,i.bytes))=some (some (.agg #[.int .i64 0,.string ⟨#[]⟩,.string ⟨#[]⟩,.slice none 0 0,.slice none 0 0,.int .i64 0,.int .i64 0,.int .i64 0,.int .i64 0]),9,120):=by kernel_rfl
theorem stmt_one (l:List Sv) (h:∀ x∈l,x.ev.oneCell' = true∧x.fv.oneCell' = true):∀ u∈l.flatMap Sv.cells,u.oneCell' = true:=by
 intro u hu
 obtain ⟨x,hx0,hx⟩:=List.mem_flatMap.1 hu
 simp only [Sv.cells,List.mem_cons,List.not_mem_nil,or_false] at hx
 rcases hx with rfl | rfl | rfl | rfl | rfl | rfl | rfl | rfl | rfl
 ·rfl
 ·rfl
 ·rfl
 ·exact (h x hx0).1
 ·exact (h x hx0).2
 ·rfl
 ·rfl
 ·rfl
 ·rfl
theorem own_put {w:World} {B:Nat} {e:TypeId} {size:Nat} {v:Value} {n:Nat} {xs:List Value} (h:w.ownsRow B e size v n xs) {g:Nat} (hg:v.ownBlock=some g) (o:Nat) (ho:o < n*size) (u:Value):(w.setCell ⟨g,o,none⟩ u).ownsRow B e size v n (xs.set o u):=by
 refine ⟨by rw [List.length_set];exact h.1,?_⟩
 rcases h.2 with ⟨rfl,_⟩ | ⟨q,cap,cur,hv,hq,hh,hn,hc,hs,ht⟩
 ·cases hg
 ·have hqg:q=g:=by rw [hv] at hg;injection hg
  subst hqg
  have hlt:q < w.heap.size:=by
   rcases Nat.lt_or_ge q w.heap.size with hlt | hge
   ·exact hlt
   ·rw [Array.getElem?_eq_none hge] at hh;cases hh
  refine .inr ⟨q,cap,cur.setIfInBounds o u,hv,hq,?_,hn,hc,by simpa using hs,?_⟩
  ·unfold World.setCell
   simp only [Array.getElem?_modify,hh,Option.isSome_none]
   simp
  ·rw [← ht]
   simp only [Array.toList_setIfInBounds]
   rw [List.take_set]
theorem qword_c (k:Nat) (hk:k≤14) (w:World):Calls Tryz.prog 72 #[.int .i64 k] w fun e w'=>e = .returned (.string (str (wordS k)))∧Below w.heap.size w w':=by
 have hn:=fun j x h=>cells_new w #[.string ⟨#[]⟩,.string ⟨#[]⟩,.string ⟨#[108,111,97,100]⟩,.string ⟨#[115,116,111,114,101]⟩,.string ⟨#[99,97,115]⟩,.string ⟨#[102,108,117,115,104]⟩,.string ⟨#[111,112,116]⟩,.string ⟨#[115,102,101,110,99,101]⟩,.string ⟨#[109,102,101,110,99,101]⟩,.string ⟨#[116,97,107,101]⟩,.string ⟨#[103,105,118,101]⟩,.string ⟨#[105,102]⟩,.string ⟨#[108,111,111,112]⟩,.string ⟨#[98,114,101,97,107]⟩,.string ⟨#[99,104,101,99,107]⟩] 9 j x h
 have hb:=al w (.cells #[.string ⟨#[]⟩,.string ⟨#[]⟩,.string ⟨#[108,111,97,100]⟩,.string ⟨#[115,116,111,114,101]⟩,.string ⟨#[99,97,115]⟩,.string ⟨#[102,108,117,115,104]⟩,.string ⟨#[111,112,116]⟩,.string ⟨#[115,102,101,110,99,101]⟩,.string ⟨#[109,102,101,110,99,101]⟩,.string ⟨#[116,97,107,101]⟩,.string ⟨#[103,105,118,101]⟩,.string ⟨#[105,102]⟩,.string ⟨#[108,111,111,112]⟩,.string ⟨#[98,114,101,97,107]⟩,.string ⟨#[99,104,101,99,107]⟩] 9)
 have hk0:(0:Int)≤(k:Int):=Int.natCast_nonneg _
 have hk1:(k:Int) < 15:=by omega
 have hx:(w.alloc (.cells #[.string ⟨#[]⟩,.string ⟨#[]⟩,.string ⟨#[108,111,97,100]⟩,.string ⟨#[115,116,111,114,101]⟩,.string ⟨#[99,97,115]⟩,.string ⟨#[102,108,117,115,104]⟩,.string ⟨#[111,112,116]⟩,.string ⟨#[115,102,101,110,99,101]⟩,.string ⟨#[109,102,101,110,99,101]⟩,.string ⟨#[116,97,107,101]⟩,.string ⟨#[103,105,118,101]⟩,.string ⟨#[105,102]⟩,.string ⟨#[108,111,111,112]⟩,.string ⟨#[98,114,101,97,107]⟩,.string ⟨#[99,104,101,99,107]⟩] 9)).cell? ⟨w.heap.size,k,none⟩=some (.string (str (wordS k))):=by
  have h15:k=0∨k=1∨k=2∨k=3∨k=4∨k=5∨k=6∨k=7∨k=8∨k=9∨k=10∨k=11∨k=12∨k=13∨k=14:=by omega
  rcases h15 with rfl | rfl | rfl | rfl | rfl | rfl | rfl | rfl | rfl | rfl | rfl | rfl | rfl | rfl | rfl <;> exact hn _ _ rfl
 clear hn
 generalize str (wordS k)=S at hx ⊢
 go_enter Tryz.func72,Tryz.ntmps72
 go_wp2_with fail
 go_ret
 exact ⟨rfl,hb⟩
structure KR (g:Nat) (o o':Value) (w w':World):Prop where
 os:w'.os=w.os
 tape:w'.tape=w.tape
 output:w'.output=w.output
 size:w.heap.size≤w'.heap.size
 block:∀ k,k < w.heap.size→k≠g→o.ownBlock≠some k→w'.heap[k]? = w.heap[k]?
 own:o'.ownBlock=o.ownBlock∨∃ b,o'.ownBlock=some b∧w.heap.size≤b
theorem KR.of {g:Nat} {w w':World} (o:Value) (h:Keep g w w'):KR g o o w w':=⟨h.os,h.tape,h.output,h.size,fun k hk hg _=>h.block k hk hg,.inl rfl⟩
theorem KR.trans {g:Nat} {o o1 o2:Value} {a b c:World} (h:KR g o o1 a b) (k:KR g o1 o2 b c):KR g o o2 a c:=by
 refine ⟨k.os.trans h.os,k.tape.trans h.tape,k.output.trans h.output,Nat.le_trans h.size k.size,fun i hi hg ho=>?_,?_⟩
 ·refine (k.block i (Nat.lt_of_lt_of_le hi h.size) hg (fun e=>?_)).trans (h.block i hi hg ho)
  rcases h.own with h1 | ⟨b1,h1,h2⟩
  ·exact ho (h1.symm.trans e)
  ·rw [h1] at e;injection e with e;omega
 ·rcases k.own with k1 | ⟨b1,k1,k2⟩
  ·rcases h.own with h1 | ⟨b2,h1,h2⟩
   ·exact .inl (k1.trans h1)
   ·exact .inr ⟨b2,k1.trans h1,h2⟩
  ·exact .inr ⟨b1,k1,Nat.le_trans h.size k2⟩
theorem KR.drewN {g:Nat} {o o':Value} {w w':World} (h:KR g o o' w w') (n:Nat):KR g o o' w (w'.drewN n):=⟨h.os,h.tape,h.output,h.size,h.block,h.own⟩
theorem SB.kr {w w':World} {b g:Nat} {x:St} {ev fv o o':Value} (h:SB w b x ev fv) (hk:KR g o o' w w') (hne:b≠g) (ho:o.ownBlock≠some b):SB w' b x ev fv:=by
 have hb:=hk.block b h.lt hne ho
 have e:=fun j y (hc:w.cell? ⟨b,j,none⟩=some y)=>(World.cell?_of_block (a:=⟨b,j,none⟩) hb).trans hc
 exact ⟨Nat.lt_of_lt_of_le h.lt hk.size,e _ _ h.c0,e _ _ h.c1,e _ _ h.c2,e _ _ h.c3,e _ _ h.c4,e _ _ h.c5,e _ _ h.c6,e _ _ h.c7,e _ _ h.c8,fun j=>(World.frozen?_of_block (a:=⟨b,j,none⟩) hb).trans (h.fr j)⟩
theorem KR.ne {g b:Nat} {o o':Value} {w w':World} (h:KR g o o' w w') (hb:b < w.heap.size) (hne:o.ownBlock≠some b):o'.ownBlock≠some b:=fun e=>by
 rcases h.own with h1 | ⟨q,h1,h2⟩
 ·exact hne (h1.symm.trans e)
 ·rw [h1] at e;injection e with e;omega
def BlkEnd (r : RS (List St)) (j : Nat) (e p p0 : Int) (pl : List Sv) : Prop := match r with
  | .inl (x, t) => j = t ∧ e = 0 ∧ p = p0 ∧ pl.map (·.s) = x
  | .inr (a, c) => e = a ∧ p = c ∧ ¬ a = 0
theorem after_mono {α:Type} {e p:Int} {i:Nat} {r:RS α} {d:α} (hr:∀ x j,r = .inl (x,j)→i≤j):i≤(After e p i r d).2.1:=by
 unfold After
 split
 ·split
  ·exact hr _ _ rfl
  ·exact Nat.le_refl _
 ·exact Nat.le_refl _
theorem step_mono (l:List Tok) (σ:Sg) (o:OpS):σ.i≤(stepS l σ o).i:=by
 cases o with
 | reg=>exact after_mono (fun x j hr=>by have:=nameR_good hr;omega)
 | name=>exact after_mono (fun x j hr=>by have:=nameR_good hr;omega)
 | nodes=>exact after_mono (fun x j hr=>by have:=exprR_good hr;omega)
 | more=>exact after_mono (fun x j hr=>by have:=exprR_good hr;omega)
 | times=>exact after_mono (fun x j hr=>by have:=roundsR_good hr;omega)
 | sign s=>exact after_mono (fun x j hr=>by have:=signR_good hr;omega)
theorem run_mono (l : List Tok) : ∀ (ops : List OpS) (σ : Sg), σ.i ≤ (runS l σ ops).i
  | [], σ => Nat.le_refl _
  | o :: r, σ => Nat.le_trans (step_mono l σ o) (run_mono l r (stepS l σ o))
theorem mI_le (l:List Tok) (s:List UInt8) (i:Nat) (e:Int):i≤mI l s i e:=by unfold mI;split <;> omega
theorem mI_lt {l:List Tok} (hl:l.length≤100000) (s:List UInt8) {i:Nat} (hi:i≤1000000) (e:Int):mI l s i e≤1000000:=by
 unfold mI
 split
 ·rename_i h
  have:=isE_lt h.2
  omega
 ·exact hi
theorem mE_zero {l:List Tok} {s:List UInt8} {i:Nat} {e:Int} (h:mE l s i e=0):e=0:=by
 unfold mE at h
 split at h
 ·rename_i h2;exact h2.1
 ·unfold wE at h
  split at h
  ·assumption
  ·exact h
def oneP (blk : Bool → Nat → RS (List St)) (b : Bool) (l : List Tok) (i k : Nat) (P : Int) : RS (List St) :=
  if k = 13 ∧ b = false then .inr (badR l i 5)
  else match partsR l (lettS k) 0 { zeroS with kind := k, pos := P } (if k = 1 then i else i + 1) with
    | .inr e => .inr e
    | .inl (x, j) =>
      if k = 11 then match blk b j with
        | .inr e => .inr e
        | .inl (y, j2) => if isE l j2 wElse = true then match blk b (j2 + 1) with
            | .inr e => .inr e
            | .inl (z, j3) => .inl ({ x with body := y.length, els := z.length } :: (y ++ z), j3)
          else .inl ({ x with body := y.length } :: y, j2)
      else if k = 12 then match blk true j with
        | .inr e => .inr e
        | .inl (y, j2) => .inl ({ x with body := y.length } :: y, j2)
      else match signR l [59] j with
        | .inr e => .inr e
        | .inl (_, j2) => .inl ([x], j2)
theorem SB.below {w w':World} {b:Nat} {x:St} {ev fv:Value} (h:SB w b x ev fv) (hb:Below w.heap.size w w'):SB w' b x ev fv:=h.keep (g:=b+1) (Keep.of hb) (by omega)
theorem off_nods {S:Nat→Prop} {B:Nat} {w:World} {v:Value} {l:List Nod} (h:Nods w v l) (hf:Fresh B v) (hS:∀ k,S k→k < B):Off S w (fun u=>Nods u v l):=fun w' h1 h2=>by
 obtain ⟨hl,A,c,rfl,hc,hr⟩:=h
 refine ⟨hl,A,c,rfl,hc,fun h0=>?_⟩
 obtain ⟨b,off,rfl,hlt,hcell⟩:=hr h0
 refine ⟨b,off,rfl,by omega,fun j x hj=>?_⟩
 exact (World.cell?_of_block (a:=⟨b,off+j,none⟩) (h2 b hlt (fun hs=>by have:=hf _ _ _ rfl;have:=hS b hs;simp only at *;omega))).trans (hcell j x hj)
theorem run_cases {l:List Tok} {k i:Nat} {P p:Int} {x:St} {j:Nat} {e1 p1:Int} (h:runS l ⟨{ zeroS with kind:=k,pos:=P },i,0,p⟩ (opsS k)=⟨x,j,e1,p1⟩) :
 (partsR l (lettS k) 0 { zeroS with kind:=k,pos:=P } i = .inl (x,j)∧e1=0∧p1=p)∨(partsR l (lettS k) 0 { zeroS with kind:=k,pos:=P } i = .inr (e1,p1)∧¬ e1=0):=by
 have hr:=run_parts l (lettS k) 0 { zeroS with kind:=k,pos:=P } i p
 cases hp:partsR l (lettS k) 0 { zeroS with kind:=k,pos:=P } i with
 | inl q =>
   obtain ⟨y,t⟩:=q
   rw [hp] at hr
   have:=(show runS l _ (opsOf2 (lettS k) 0)=_ from hr).symm.trans h
   cases this
   exact .inl ⟨rfl,rfl,rfl⟩
 | inr q =>
   obtain ⟨a,b⟩:=q
   rw [hp] at hr
   have h2:runS l ⟨{ zeroS with kind:=k,pos:=P },i,0,p⟩ (opsOf2 (lettS k) 0)=⟨x,j,e1,p1⟩:=h
   simp only [h2] at hr
   exact .inr ⟨by rw [hr.1,hr.2.1],by rw [hr.1];exact hr.2.2⟩
theorem one_sign {l:List Tok} {blk:Bool→Nat→RS (List St)} {b:Bool} {i k:Nat} {P p:Int} {x:St} {j:Nat} {e1 p1:Int} (h13:¬ (k=13∧b=false)) (h11:k≠11) (h12:k≠12)
 (h:runS l ⟨{ zeroS with kind:=k,pos:=P },if k=1 then i else i+1,0,p⟩ (opsS k)=⟨x,j,e1,p1⟩) (ev fv:Value):BlkEnd (oneP blk b l i k P) (mI l [59] j e1) (mE l [59] j e1) (mP l [59] j e1 p1) p [⟨x,ev,fv⟩]:=by
 unfold oneP
 rw [if_neg h13]
 rcases run_cases h with ⟨hp,rfl,rfl⟩ | ⟨hp,he⟩
 ·rw [hp]
  simp only
  rw [if_neg h11,if_neg h12]
  unfold signR mI mE mP
  by_cases hs:isE l j [59] = true
  ·have h1:(0:Int)=0∧isE l j [59] = true:=⟨rfl,hs⟩
   rw [if_pos h1,if_pos h1,if_pos h1,if_pos hs]
   exact ⟨rfl,rfl,rfl,rfl⟩
  ·have h1:¬ ((0:Int)=0∧isE l j [59] = true):=fun h=>hs h.2
   rw [if_neg h1,if_neg h1,if_neg h1,if_neg hs]
   exact ⟨rfl,rfl,badR_ne (by decide)⟩
 ·rw [hp]
  unfold mI mE mP wE wP
  have h1:¬ (e1=0∧isE l j [59] = true):=fun h=>he h.1
  rw [if_neg h1,if_neg h1,if_neg h1,if_neg he,if_neg he]
  exact ⟨rfl,rfl,he⟩
theorem part_lt {l:List Tok} {k i:Nat} {P p:Int} {x:St} {j:Nat} {e1 p1:Int} (h:runS l ⟨{ zeroS with kind:=k,pos:=P },if k=1 then i else i+1,0,p⟩ (opsS k)=⟨x,j,e1,p1⟩) (he:e1=0):i < j:=by
 rcases run_cases h with ⟨hp,_,_⟩ | ⟨_,hn⟩
 ·have g:=partsR_good hp
  by_cases h1:k=1
  ·rw [if_pos h1,h1] at g
   exact g.2.2.2 (by decide)
  ·rw [if_neg h1] at g
   omega
 ·exact absurd he hn
theorem one_wrong {l:List Tok} {blk:Bool→Nat→RS (List St)} {b:Bool} {i k:Nat} {P p:Int} {x:St} {j:Nat} {e1 p1:Int} (h13:¬ (k=13∧b=false))
 (h:runS l ⟨{ zeroS with kind:=k,pos:=P },if k=1 then i else i+1,0,p⟩ (opsS k)=⟨x,j,e1,p1⟩) (he:¬ e1=0) (t:Nat) (r:List Sv):BlkEnd (oneP blk b l i k P) t e1 p1 p r:=by
 unfold oneP
 rw [if_neg h13]
 rcases run_cases h with ⟨_,h0,_⟩ | ⟨hp,_⟩
 ·exact absurd h0 he
 ·rw [hp]
  exact ⟨rfl,rfl,he⟩
theorem one_loop {l:List Tok} {blk:Bool→Nat→RS (List St)} {b:Bool} {i:Nat} {P p:Int} {x:St} {j:Nat} {e1 p1:Int}
 (h:runS l ⟨{ zeroS with kind:=(12:Nat),pos:=P },if (12:Nat)=1 then i else i+1,0,p⟩ (opsS 12)=⟨x,j,e1,p1⟩) (he:e1=0) {ev fv:Value} {j2:Nat} {e2 p2:Int} {r:List Sv} (hb:BlkEnd (blk true j) j2 e2 p2 p1 r):BlkEnd (oneP blk b l i 12 P) j2 e2 p2 p (⟨{ x with body:=(r.length:Nat) },ev,fv⟩ :: r):=by
 unfold oneP
 rw [if_neg (fun h=>absurd h.1 (by decide))]
 rcases run_cases h with ⟨hp,_,rfl⟩ | ⟨_,hn⟩
 ·rw [hp]
  simp only [show ((12:Nat)=11) ↔ False by decide,if_false,if_true]
  cases hr:blk true j with
  | inr q=>obtain ⟨a,c⟩:=q;rw [hr] at hb;exact hb
  | inl q =>
    obtain ⟨y,t⟩:=q
    rw [hr] at hb
    obtain ⟨h1,h2,h3,h4⟩:=hb
    subst h4
    exact ⟨h1,h2,h3,by simp⟩
 ·exact absurd he hn
theorem one_ifb {l:List Tok} {blk:Bool→Nat→RS (List St)} {b:Bool} {i:Nat} {P p:Int} {x:St} {j:Nat} {e1 p1:Int}
 (h:runS l ⟨{ zeroS with kind:=(11:Nat),pos:=P },if (11:Nat)=1 then i else i+1,0,p⟩ (opsS 11)=⟨x,j,e1,p1⟩) (he:e1=0) {ev fv:Value} {j2:Nat} {e2 p2:Int} {r:List Sv} (hb:BlkEnd (blk b j) j2 e2 p2 p1 r) (hn:¬ (e2=0∧isE l j2 wElse=true)):BlkEnd (oneP blk b l i 11 P) j2 e2 p2 p (⟨{ x with body:=(r.length:Nat) },ev,fv⟩ :: r):=by
 unfold oneP
 rw [if_neg (fun h=>absurd h.1 (by decide))]
 rcases run_cases h with ⟨hp,_,rfl⟩ | ⟨_,hn⟩
 ·rw [hp]
  simp only [if_true]
  cases hr:blk b j with
  | inr q=>obtain ⟨a,c⟩:=q;rw [hr] at hb;exact hb
  | inl q =>
    obtain ⟨y,t⟩:=q
    rw [hr] at hb
    obtain ⟨h1,h2,h3,h4⟩:=hb
    subst h4 h1
    simp only
    rw [if_neg (fun hh=>hn ⟨h2,hh⟩)]
    exact ⟨rfl,h2,h3,by simp⟩
 ·exact absurd he hn
theorem one_ife {l:List Tok} {blk:Bool→Nat→RS (List St)} {b:Bool} {i:Nat} {P p:Int} {x:St} {j:Nat} {e1 p1:Int}
 (h:runS l ⟨{ zeroS with kind:=(11:Nat),pos:=P },if (11:Nat)=1 then i else i+1,0,p⟩ (opsS 11)=⟨x,j,e1,p1⟩) (he:e1=0) {ev fv:Value} {j2:Nat} {e2 p2:Int} {r:List Sv} (hb:BlkEnd (blk b j) j2 e2 p2 p1 r) (h2:e2=0) (hi:isE l j2 wElse=true) {j3:Nat} {e3 p3:Int} {r2:List Sv} (hb2:BlkEnd (blk b (j2+1)) j3 e3 p3 p2 r2):BlkEnd (oneP blk b l i 11 P) j3 e3 p3 p (⟨{ x with body:=(r.length:Nat),els:=(r2.length:Nat) },ev,fv⟩ :: (r++r2)):=by
 unfold oneP
 rw [if_neg (fun h=>absurd h.1 (by decide))]
 rcases run_cases h with ⟨hp,_,rfl⟩ | ⟨_,hn⟩
 ·rw [hp]
  simp only [if_true]
  cases hr:blk b j with
  | inr q=>obtain ⟨a,c⟩:=q;rw [hr] at hb;exact absurd (hb.1 ▸ h2) hb.2.2
  | inl q =>
    obtain ⟨y,t⟩:=q
    rw [hr] at hb
    obtain ⟨h1,h2,h3,h4⟩:=hb
    subst h4 h1 h3
    simp only
    rw [if_pos hi]
    cases hr2:blk b (j2+1) with
    | inr q=>obtain ⟨a,c⟩:=q;rw [hr2] at hb2;exact hb2
    | inl q =>
      obtain ⟨y,t⟩:=q
      rw [hr2] at hb2
      obtain ⟨h1,h2,h3,h4⟩:=hb2
      subst h4
      exact ⟨h1,h2,h3,by simp⟩
 ·exact absurd he hn
theorem KR.drew {g:Nat} {o o':Value} {w w':World} (h:KR g o o' w w'):KR g o o' w w'.drew:=⟨h.os,h.tape,h.output,h.size,h.block,h.own⟩
theorem set_mid {α:Type} (pl r:List α) (a y:α):(pl++a :: r).set pl.length y=pl++y :: r:=by
 rw [List.set_append];simp
theorem own_some {w:World} {base:Nat} {e:TypeId} {size:Nat} {v:Value} {n:Nat} {xs:List Value} (h:w.ownsRow base e size v n xs) (hn:0 < n):∃ gg c,v = .slice (some ⟨gg,0,none⟩) n c∧v.ownBlock=some gg∧(∀ j x,xs[j]? = some x→w.cell? ⟨gg,j,none⟩=some x):=by
 have hs:=sl_of_own h
 rcases h.2 with ⟨rfl,h0,_⟩ | ⟨q,cap,cur,rfl,hq,hh,r⟩
 ·omega
 ·refine ⟨q,cap,rfl,rfl,?_⟩
  obtain ⟨_,A,c,he,hc,hr⟩:=hs
  obtain ⟨b,off,hA,hlt,hcell⟩:=hr hn
  cases he
  cases hA
  intro j x hj
  have:=hcell j x hj
  rwa [Nat.zero_add] at this
end Go.Proofs.YtaoeaaebafcegaaGreatDoor

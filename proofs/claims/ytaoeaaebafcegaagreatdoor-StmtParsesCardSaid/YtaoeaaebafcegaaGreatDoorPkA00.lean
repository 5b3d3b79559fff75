/- Chapter 04 (statements), joined: Mem. -/
import Derived.Below
import Derived.Deep.Draws
import Derived.Laws.AppendOwn
import Derived.Laws.OwnMore
import Derived.Laws.Strings
import Derived.Lib.Hide
set_option maxRecDepth 100000
namespace Go.Proofs.YtaoeaaebafcegaaGreatDoor
open Go Go.RowKit
set_option linter.unusedVariables false
def str (l:List UInt8):ByteArray:=⟨l.toArray⟩
theorem str_toList (l:List UInt8):(str l).toList=l:=ByteArray.toList_mk l
theorem str_data (l:List UInt8):(str l).data.toList=l:=by simp [str]
theorem str_of (s:ByteArray):str s.data.toList=s:=by simp [str]
theorem str_size (l:List UInt8):(str l).size=l.length:=by simp [str,ByteArray.size]
structure Tok where
 kind:Int
 text:List UInt8
 n:Int
 pos:Int
structure Nod where
 op:Int
 n:Int
 name:List UInt8
 pos:Int
def Tok.cells (t:Tok):List Value:=[.int .i64 t.kind,.string (str t.text),.int .i64 t.n,.int .i64 t.pos]
def Nod.cells (t:Nod):List Value:=[.int .i64 t.op,.int .i64 t.n,.string (str t.name),.int .i64 t.pos]
def strCell (t:List UInt8):List Value:=[.string (str t)]
structure Sl (w:World) (B:Nat) (v:Value) (size n:Nat) (cs:List Value):Prop where
 len:cs.length=n*size
 form:∃ A c,v = .slice A n c∧n≤c∧(0 < n→∃ b off,A=some ⟨b,off,none⟩∧b < B∧∀ j u,cs[j]? = some u→w.cell? ⟨b,off+j,none⟩=some u)
theorem Sl.nil (w:World) (B size:Nat):Sl w B (.slice none 0 0) size 0 []:=⟨by simp,none,0,rfl,Nat.le_refl _,fun h=>absurd h (by omega)⟩
theorem Sl.below {w w':World} {B:Nat} {v:Value} {size n:Nat} {cs:List Value} (h:Sl w B v size n cs) (hb:Below B w w'):Sl w' B v size n cs:=by
 obtain ⟨h1,A,c,hv,hc,hf⟩:=h
 refine ⟨h1,A,c,hv,hc,fun h0=>?_⟩
 obtain ⟨b,off,hA,hlt,hcell⟩:=hf h0
 exact ⟨b,off,hA,hlt,fun j u hj=>(hb.cell (p:=⟨b,off+j,none⟩) hlt).trans (hcell j u hj)⟩
theorem Sl.more {w:World} {B B':Nat} {v:Value} {size n:Nat} {cs:List Value} (h:Sl w B v size n cs) (hB:B≤B'):Sl w B' v size n cs:=by
 obtain ⟨h1,A,c,hv,hc,hf⟩:=h
 refine ⟨h1,A,c,hv,hc,fun h0=>?_⟩
 obtain ⟨b,off,hA,hlt,hcell⟩:=hf h0
 exact ⟨b,off,hA,by omega,hcell⟩
abbrev SlN (w:World) (v:Value) (size n:Nat) (cs:List Value):Prop:=Sl w w.heap.size v size n cs
theorem SlN.below {w w':World} {v:Value} {size n:Nat} {cs:List Value} (h:SlN w v size n cs) (hb:Below w.heap.size w w'):SlN w' v size n cs :=
 (Sl.below h hb).more hb.size
theorem flat_getElem {α : Type} (f : α → List Value) (size : Nat) (hf : ∀ x, (f x).length = size) : ∀ (l : List α) (i k : Nat) (hi : i < l.length), k < size →
    (l.flatMap f)[i * size + k]? = (f l[i])[k]?
  | x :: l, 0, k, hi, hk => by
    simp only [List.flatMap_cons, Nat.zero_mul, Nat.zero_add, List.getElem_cons_zero]
    rw [List.getElem?_append_left (by rw [hf]; exact hk)]
  | x :: l, i + 1, k, hi, hk => by
    simp only [List.flatMap_cons, List.getElem_cons_succ]
    rw [List.getElem?_append_right (by rw [hf, Nat.succ_mul]; omega), hf, show (i + 1) * size + k - size = i * size + k by rw [Nat.succ_mul]; omega]
    exact flat_getElem f size hf l i k (by simpa using hi) hk
theorem flat_length {α:Type} (f:α→List Value) (size:Nat) (hf:∀ x,(f x).length=size) (l:List α):(l.flatMap f).length=l.length*size:=by
 induction l with
 | nil=>simp
 | cons x l ih=>simp only [List.flatMap_cons,List.length_append,hf,ih,List.length_cons,Nat.succ_mul];omega
theorem Tok.cells_len (t:Tok):t.cells.length=4:=rfl
theorem Nod.cells_len (t:Nod):t.cells.length=4:=rfl
abbrev Toks (w:World) (v:Value) (l:List Tok):Prop:=SlN w v 4 l.length (l.flatMap Tok.cells)
abbrev Nods (w:World) (v:Value) (l:List Nod):Prop:=SlN w v 4 l.length (l.flatMap Nod.cells)
abbrev Strs (w:World) (v:Value) (l:List (List UInt8)):Prop:=SlN w v 1 l.length (l.flatMap strCell)
structure TokAt (w:World) (b o:Nat) (t:Tok):Prop where
 kind:w.cell? ⟨b,o,none⟩=some (.int .i64 t.kind)
 text:w.cell? ⟨b,o+1,none⟩=some (.string (str t.text))
 n:w.cell? ⟨b,o+2,none⟩=some (.int .i64 t.n)
 pos:w.cell? ⟨b,o+3,none⟩=some (.int .i64 t.pos)
structure NodAt (w:World) (b o:Nat) (t:Nod):Prop where
 op:w.cell? ⟨b,o,none⟩=some (.int .i64 t.op)
 n:w.cell? ⟨b,o+1,none⟩=some (.int .i64 t.n)
 name:w.cell? ⟨b,o+2,none⟩=some (.string (str t.name))
 pos:w.cell? ⟨b,o+3,none⟩=some (.int .i64 t.pos)
theorem Toks.shape {w:World} {v:Value} {l:List Tok} (h:Toks w v l):∃ A c,v = .slice A l.length c∧l.length≤c:=by
 obtain ⟨_,A,c,hv,hc,_⟩:=h;exact ⟨A,c,hv,hc⟩
theorem Nods.shape {w:World} {v:Value} {l:List Nod} (h:Nods w v l):∃ A c,v = .slice A l.length c∧l.length≤c:=by
 obtain ⟨_,A,c,hv,hc,_⟩:=h;exact ⟨A,c,hv,hc⟩
theorem Toks.at_ {w:World} {v:Value} {l:List Tok} (h:Toks w v l) (h0:0 < l.length) :
 ∃ b off c,v = .slice (some ⟨b,off,none⟩) l.length c∧l.length≤c∧b < w.heap.size∧∀ i (hi:i < l.length),TokAt w b (off+i*4) l[i]:=by
 obtain ⟨_,A,c,hv,hc,hf⟩:=h
 obtain ⟨b,off,hA,hlt,hcell⟩:=hf h0
 subst hA
 refine ⟨b,off,c,hv,hc,hlt,fun i hi=>?_⟩
 have hg:=fun k hk=>flat_getElem Tok.cells 4 Tok.cells_len l i k hi hk
 exact ⟨hcell _ _ (hg 0 (by omega)),hcell _ _ (hg 1 (by omega)),hcell _ _ (hg 2 (by omega)),hcell _ _ (hg 3 (by omega))⟩
theorem Nods.at_ {w:World} {v:Value} {l:List Nod} (h:Nods w v l) (h0:0 < l.length) :
 ∃ b off c,v = .slice (some ⟨b,off,none⟩) l.length c∧l.length≤c∧b < w.heap.size∧∀ i (hi:i < l.length),NodAt w b (off+i*4) l[i]:=by
 obtain ⟨_,A,c,hv,hc,hf⟩:=h
 obtain ⟨b,off,hA,hlt,hcell⟩:=hf h0
 subst hA
 refine ⟨b,off,c,hv,hc,hlt,fun i hi=>?_⟩
 have hg:=fun k hk=>flat_getElem Nod.cells 4 Nod.cells_len l i k hi hk
 exact ⟨hcell _ _ (hg 0 (by omega)),hcell _ _ (hg 1 (by omega)),hcell _ _ (hg 2 (by omega)),hcell _ _ (hg 3 (by omega))⟩
theorem ret_bool {a b:Bool} (h:a=b):Ending.returned (.bool a) = .returned (.bool b):=by rw [h]
theorem ret_int {k:IntKind} {a b:Int} (h:a=b):Ending.returned (.int k a) = .returned (.int k b):=by rw [h]
theorem ret_str {a b:ByteArray} (h:a=b):Ending.returned (.string a) = .returned (.string b):=by rw [h]
theorem bt {a b c:World} (h:Below a.heap.size a b) (k:Below b.heap.size b c):Below a.heap.size a c:=h.trans (k.mono h.size)
theorem own_below {w w':World} {base:Nat} {e:TypeId} {size:Nat} {v:Value} {n:Nat} {xs:List Value} (h:w.ownsRow base e size v n xs) (hb:Below w.heap.size w w'):w'.ownsRow base e size v n xs:=by
 obtain ⟨h1,h2⟩:=h
 refine ⟨h1,?_⟩
 rcases h2 with h2 | ⟨g,cap,cur,hv,hg,hh,r⟩
 ·exact .inl h2
 ·have hlt:g < w.heap.size:=by
   rcases Nat.lt_or_ge g w.heap.size with hlt | hge
   ·exact hlt
   ·rw [Array.getElem?_eq_none hge] at hh;cases hh
  exact .inr ⟨g,cap,cur,hv,hg,(hb.block g hlt).trans hh,r⟩
theorem sl_of_own {w:World} {base:Nat} {e:TypeId} {size:Nat} {v:Value} {n:Nat} {xs:List Value} (h:w.ownsRow base e size v n xs):SlN w v size n xs:=by
 refine ⟨h.1,?_⟩
 rcases h.2 with ⟨rfl,rfl⟩ | ⟨g,cap,cur,hv,hg,hh,hn,hc,hs,ht⟩
 ·exact ⟨none,0,rfl,Nat.le_refl _,fun h=>absurd h (by omega)⟩
 ·refine ⟨some ⟨g,0,none⟩,cap,hv,hn,fun _=>⟨g,0,rfl,?_,fun j u hj=>?_⟩⟩
  ·exact (h.lt g (by rw [hv];rfl)).2
  ·have:=h.cells (g:=g) (by rw [hv];rfl) j u hj
   have e:(⟨g,0,none⟩:Addr).add j=⟨g,0+j,none⟩:=by
    unfold Addr.add
    split
    ·rename_i h0;subst h0;rfl
    ·rfl
   rw [e] at this
   exact this
theorem below_set {B:Nat} {a w:World} (h:Below B a w) {b o:Nat} (hp:B≤b) (u:Value):Below B a (w.setCell ⟨b,o,none⟩ u):=h.setCell (p:=⟨b,o,none⟩) hp u
end Go.Proofs.YtaoeaaebafcegaaGreatDoor

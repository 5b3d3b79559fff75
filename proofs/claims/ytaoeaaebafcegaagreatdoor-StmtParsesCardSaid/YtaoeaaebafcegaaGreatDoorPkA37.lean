/- Chapter 04 (statements), joined: BldA. -/
import Derived.Test.YtaoeaaebafcegaaGreatDoorPkA00
import Derived.Test.YtaoeaaebafcegaaGreatDoorPkShelf
import Derived.Laws.Externs
import Derived.Lib.AppendStr
import Derived.Lib.Builder
import Derived.Lib.OthersKept
import Derived.Lib.UnsafeStr
import Derived.Lib.Walk
import Derived.OwnWalk
import Derived.WalkKit
import Derived.WalkSpells
set_option maxRecDepth 100000
set_option maxHeartbeats 2000000
namespace Go.Proofs.YtaoeaaebafcegaaGreatDoor
open Go Go.RowKit
set_option linter.unusedVariables false
abbrev OK_ (b:Nat) (w w':World):Prop:=Lib.OthersKept 5 (some b) w w'
theorem own_kind {w:World} {B:Nat} {e:TypeId} {v:Value} {n:Nat} {xs:List Value} (h:w.ownsRow B e 1 v n xs):∀ g,v.ownBlock=some g→∃ c fz,w.heap[g]? = some (.cells c e fz):=by
 intro g hg
 rcases h.2 with ⟨rfl,_⟩ | ⟨g',cap,cur,rfl,_,hgg,_⟩
 ·simp [Value.ownBlock] at hg
 ·simp [Value.ownBlock] at hg
  subst hg
  exact ⟨cur,(0,0),hgg⟩
abbrev Bld (B b:Nat) (l:List UInt8) (w:World):Prop:=Lib.IsBuilder 65 5 B b (Lib.byteCells l) w
theorem bld_size:(Tryz.prog.info? 65).map (fun j=>j.size)=some 2:=by kernel_rfl
theorem bld_lies:liesAt Tryz.prog Tryz.prog.depth 65 (2 / Tryz.prog.cellsOf 65) 0 65 1=true:=by kernel_rfl
theorem bld_byte:(Tryz.prog.info? 5).map (fun i=>(i.zero,i.size,i.bytes))=some (some (.int .u8 0),1,1):=by kernel_rfl
theorem check_used (b:Nat) (w:World) (h0:w.cell? ⟨b,0,none⟩=some (.pointer (some ⟨b,0,none⟩))) :
 Calls Tryz.prog 92 #[.pointer (some ⟨b,0,none⟩)] w fun e w'=>e = .returned (.tuple #[])∧w' = w:=by
 obtain ⟨j,hj,hjs⟩:=Option.map_eq_some_iff.1 bld_size
 go_enter Tryz.func92,Tryz.ntmps92
 go_wp2
 rw [Lib.run_neq_ptr_same w _ Tryz.underlying62 hj]
 go_wp2
 go_end0
 exact ⟨rfl,rfl⟩
theorem check_fresh (b:Nat) (w:World) (h0:w.cell? ⟨b,0,none⟩=some (.pointer none)) (hsh:w.shape? b=some (65,2)) (hfz:w.frozen? ⟨b,0,none⟩=false) :
 Calls Tryz.prog 92 #[.pointer (some ⟨b,0,none⟩)] w fun e w'=>e = .returned (.tuple #[])∧w' = w.setCell ⟨b,0,none⟩ (.pointer (some ⟨b,0,none⟩)):=by
 obtain ⟨j,hj,hjs⟩:=Option.map_eq_some_iff.1 bld_size
 go_enter Tryz.func92,Tryz.ntmps92
 go_wp2
 rw [Lib.run_to_unsafe w ⟨b,0,none⟩ Tryz.underlying62 Tryz.underlying116 hj (by rw [hjs];decide) hsh (Nat.zero_lt_succ 1)]
 simp only [Result.andThen]
 rw [Oper.upon_value]
 go_wp2
 rw [run_callFunc_extern Tryz.func111 (by kernel_rfl) (by kernel_rfl) (by kernel_rfl) (e:=Extern.AbiNoEscape.same) (by kernel_rfl)]
 rw [Lib.run_noEscape]
 simp only [Result.andThen]
 rw [Oper.upon_value]
 go_wp2
 rw [Lib.run_from_unsafe w ⟨b,0,none⟩ Tryz.underlying116 Tryz.underlying62 hj hsh bld_lies]
 simp only [Result.andThen]
 rw [Oper.upon_value]
 go_wp2
 go_end0
 exact ⟨rfl,rfl⟩
theorem check_c (B b:Nat) (bs:List Value) (w:World) (h:Lib.IsBuilder 65 5 B b bs w) :
 Calls Tryz.prog 92 #[.pointer (some ⟨b,0,none⟩)] w fun e w'=>e = .returned (.tuple #[])∧(Lib.BuilderAt 65 5 B b (.pointer (some ⟨b,0,none⟩)) bs w'∧Below B w w'∧OK_ b w w'):=by
 rcases h with h | h
 ·refine (check_fresh b w h.cell0 h.shape h.frozen0).mono ?_
  rintro e w' ⟨rfl,rfl⟩
  exact ⟨rfl,h.used _,(Below.refl B w).setCell (p:=⟨b,0,none⟩) h.1 _,(Lib.OthersKept.refl _ _ w).setCell ⟨b,0,none⟩ rfl _⟩
 ·refine (check_used b w h.cell0).mono ?_
  rintro e w' ⟨rfl,rfl⟩
  exact ⟨rfl,h,Below.refl B _,Lib.OthersKept.refl _ _ _⟩
theorem wstr_c (B b:Nat) (l t:List UInt8) (w:World) (h:Bld B b l w) (hlen:l.length+t.length≤140737488355328) (hBw:B≤w.heap.size) :
 Calls Tryz.prog 65 #[.pointer (some ⟨b,0,none⟩),.string (str t)] w fun e w'=>e = .returned (.tuple #[.int .i64 t.length,.nilIface])∧Bld B b (l++t) w'∧Below B w w'∧OK_ b w w':=by
 obtain ⟨i0,hi,hz0,hz1,hz2⟩:=info_parts bld_byte
 have hl:(Lib.byteCells l).length+(str t).size≤140737488355328:=by rw [str_size];simpa [Lib.byteCells] using hlen
 have HS:Hid (Lib.byteCells l++Lib.strCells (str t)=Lib.byteCells (l++t)):=by
  show _=_
  simp [Lib.byteCells,Lib.strCells,str]
 have HTL:Hid (((str t).size:Int)=(t.length:Int)):=by show _=_;rw [str_size]
 generalize str t=s at hl HS HTL ⊢
 clear hlen
 go_enter Tryz.func65,Tryz.ntmps65
 go_wp2_with (go_at_call 92;refine (check_c B b _ _ h).mono ?_)
 rintro e w1 ⟨rfl,h1,hb1,hk1⟩
 obtain ⟨hB,v,hbk,hown,hne⟩:=h1
 have c0:w1.cell? ⟨b,0,none⟩=some (.pointer (some ⟨b,0,none⟩)):=by rw [Lib.cell_of_heap hbk];rfl
 have c1:w1.cell? ⟨b,1,none⟩=some v:=by rw [Lib.cell_of_heap hbk];rfl
 go_wp2_with (at_builtin;refine Lib.wpList_append_own_string _ rfl _ _ 63 9 rfl B 5 i0 Tryz.underlying63 Tryz.underlying9 hi hz0 hz1 hz2 _ _ _ rfl hown s rfl ?c3 ?c4 ?c5 ?_)
 case c3=>unfold maxLen;omega
 case c4=>omega
 case c5=>have:=hb1.size;omega
 intro v' w2 hown' hgrow _
 have hlt:b < w1.heap.size:=by
  rcases Nat.lt_or_ge b w1.heap.size with h' | h'
  ·exact h'
  ·simp [Array.getElem?_eq_none h'] at hbk
 have hb2:w2.heap[b]? = some (.cells #[.pointer (some ⟨b,0,none⟩),v] 65 (0,0)):=by
  rw [hgrow.block b hlt (fun e=>hne e.symm)]
  exact hbk
 have d0:w2.cell? ⟨b,0,none⟩=some (.pointer (some ⟨b,0,none⟩)):=by rw [Lib.cell_of_heap hb2];rfl
 have d1:w2.cell? ⟨b,1,none⟩=some v:=by rw [Lib.cell_of_heap hb2];rfl
 have f1:w2.frozen? ⟨b,1,none⟩=false:=Lib.frozen_of_heap hb2 1
 obtain ⟨ao,n',cap,rfl⟩:∃ ao n' cap,v' = .slice ao n' cap:=by
  rcases hown'.2 with ⟨hv,_⟩ | ⟨g,cap,cur,hv,_⟩
  ·exact ⟨_,_,_,hv⟩
  ·exact ⟨_,_,_,hv⟩
 go_wp2
 go_ret2
 refine ⟨by first | rfl | (rw [HTL.out];rfl),?_,?_,?_⟩
 ·unfold Bld
  rw [← HS.out]
  exact .inr (Lib.BuilderAt.put (T:=65) (e:=5) hB hb2 (bs':=Lib.byteCells l++Lib.strCells s) (by simpa [Lib.strCells_length] using hown') (by decide))
 ·exact (hb1.grown hgrow (by have:=hb1.size;omega) (fun k hk=>(hown.lt k hk).1)).setCell (p:=⟨b,1,none⟩) hB _
 ·exact (hk1.grown hgrow (own_kind hown)).setCell ⟨b,1,none⟩ rfl _
theorem bld_new (w:World):Bld w.heap.size w.heap.size [] (w.alloc (.cells #[.pointer none,.slice none 0 0] 65)) :=
 .inl ⟨Nat.le_refl _,.slice none 0 0,heap_alloc_new w _,⟨by rfl,.inl ⟨rfl,rfl⟩⟩,by simp [Value.ownBlock]⟩
theorem Bld.alloc {B b:Nat} {l:List UInt8} {w:World} (h:Bld B b l w) (o:Obj):Bld B b l (w.alloc o):=by
 have hx:∀ p,Lib.BuilderAt 65 5 B b p (Lib.byteCells l) w→Lib.BuilderAt 65 5 B b p (Lib.byteCells l) (w.alloc o):=by
  rintro p ⟨hB,v,hbk,hown,hne⟩
  exact ⟨hB,v,(Lib.alloc_old w o b (Array.getElem?_eq_some_iff.1 hbk).1).trans hbk,hown.alloc _,hne⟩
 rcases h with h | h
 ·exact .inl (hx _ h)
 ·exact .inr (hx _ h)
theorem Bld.belowN {B b:Nat} {l:List UInt8} {w w':World} (h:Bld B b l w) (hb:Below w.heap.size w w'):Bld B b l w':=by
 have hx:∀ p,Lib.BuilderAt 65 5 B b p (Lib.byteCells l) w→Lib.BuilderAt 65 5 B b p (Lib.byteCells l) w':=by
  rintro p ⟨hB,v,hbk,hown,hne⟩
  exact ⟨hB,v,(hb.block b (Array.getElem?_eq_some_iff.1 hbk).1).trans hbk,own_below hown hb,hne⟩
 rcases h with h | h
 ·exact .inl (hx _ h)
 ·exact .inr (hx _ h)
theorem Bld.lt {B b:Nat} {l:List UInt8} {w:World} (h:Bld B b l w):b < w.heap.size:=by
 rcases h with h | h
 ·exact h.lt
 ·exact h.lt
theorem kept_block {b:Nat} {w w':World} (h:OK_ b w w') {g:Nat} {cs:Array Value} {t:TypeId} (hg:w.heap[g]? = some (.cells cs t (0,0))) (hb:g≠b) (ht:t≠5):w'.heap[g]? = some (.cells cs t (0,0)) :=
 h g _ hg (fun e=>hb (Option.some.inj e)) (fun c fz e=>ht (by injection e))
theorem cell_blk {w:World} {g:Nat} {cs:Array Value} {t:TypeId} (h:w.heap[g]? = some (.cells cs t (0,0))) (i:Nat):w.cell? ⟨g,i,none⟩=cs[i]?:=Lib.cell_of_heap h i
theorem bstr_c (B b:Nat) (l:List UInt8) (w:World) (h:Bld B b l w) (hBw:B≤w.heap.size) :
 Calls Tryz.prog 36 #[.pointer (some ⟨b,0,none⟩)] w fun e w'=>e = .returned (.string (str l))∧Below B w w' :=
 Tryz.Builder_String_any B b l w h hBw
end Go.Proofs.YtaoeaaebafcegaaGreatDoor

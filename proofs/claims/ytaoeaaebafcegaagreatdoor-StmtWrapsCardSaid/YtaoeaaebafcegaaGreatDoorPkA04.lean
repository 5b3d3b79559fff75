/- Chapter 04 (statements), joined: ScanKept. -/
import Derived.Test.YtaoeaaebafcegaaGreatDoorPkA02
import Derived.Test.YtaoeaaebafcegaaGreatDoorPkA03
import Derived.Deep.AppendLies
import Derived.Maps.Own
import Derived.Maps.OwnOps
import Derived.Maps.Views
import Derived.StringKeys
set_option maxRecDepth 100000
set_option maxHeartbeats 400000
namespace Go.Proofs.YtaoeaaebafcegaaGreatDoor
open Go Go.RowKit Go.Maps
set_option linter.unusedVariables false
abbrev keptT:ByteArray:=⟨#[108,105,110,101,32,118,111,108,32,108,111,99,107,32,116,104,114,101,97,100,32,114,101,103,32,108,111,97,100,32,115,116,111,114,101,32,99,97,115,32,102,108,117,115,104,32,111,112,116,32,115,102,101,110,99,101,32,109,102,101,110,99,101,32,116,97,107,101,32,103,105,118,101,32,105,102,32,101,108,115,101,32,108,111,111,112,32,98,114,101,97,107,32,99,104,101,99,107,32,114,101,99,111,118,101,114,32,97,108,119,97,121,115]⟩
theorem keptT_count:Lib.countB keptT ⟨#[32]⟩=20:=by decide +kernel
theorem keptT_split:(Lib.splitB ⟨#[32]⟩ 0 20 keptT).map (·.data.toList)=keptL:=by decide +kernel
theorem keptT_cells:(Lib.splitB ⟨#[32]⟩ 0 20 keptT).map Value.string=keptL.map fun t=>Value.string (str t):=by
 rw [← keptT_split,List.map_map]
 refine List.map_congr_left fun x _=>?_
 show Value.string x=Value.string (str x.data.toList)
 rw [str_of]
theorem split_kept (w:World) (m:Int) (hm:w.cell? ⟨0,0,none⟩=some (.int .i64 m)) :
 Calls Tryz.prog 122 #[.string keptT,.string ⟨#[32]⟩] w fun e w'=>e = .returned (.slice (some ⟨w.heap.size,0,none⟩) 21 21)∧w' = w.alloc (.cells (keptL.map fun t=>Value.string (str t)).toArray 9):=by
 have h:=Tryz.strings_Split keptT ⟨#[32]⟩ m w (by decide +kernel) hm (by decide)
 rw [keptT_count,keptT_cells] at h
 exact h
def KeptD (D:DataW Unit) (k:Nat):Prop:=IsMap D∧∀ s:List UInt8,D.atKey (.string s) (.lit (.bool false)) = .lit (.bool ((keptL.take k).contains s))
theorem keptD_zero:KeptD (.map []) 0:=⟨⟨_,rfl⟩,fun s=>rfl⟩
theorem keptD_step {D:DataW Unit} {k:Nat} (h:KeptD D k) (hk:k < 21):KeptD (D.put (.string (kw k)) (.lit (.bool true))) (k+1):=by
 refine ⟨h.1.put _ _,fun s=>?_⟩
 rw [kw_take k hk,List.contains_append]
 by_cases he:s=kw k
 ·rw [he,atKey_put_same h.1 (k:=.string (kw k)) trivial]
  simp
 ·rw [atKey_put_other (by intro e;injection e with e;exact he e),h.2 s]
  have:[kw k].contains s=false:=by simp;exact he
  rw [this,Bool.or_false]
structure KeptM (g n:Nat) (k:Nat) (w w':World):Prop where
 below:Below n w w'
 own:∃ D,w'.ownsMap Tryz.prog 9 (plainElem Tryz.prog 4) g k D∧KeptD D k
theorem kept_c (w:World) (m:Int) (hm:w.cell? ⟨0,0,none⟩=some (.int .i64 m)) (hg:0 < w.heap.size) :
 Calls Tryz.prog 106 #[] w fun e w'=>∃ g,e = .returned (.map (some g))∧KeptM g w.heap.size 21 w w':=by
 have hmm:=@run_makeMap Tryz.prog
 have HM:Hid ((w.alloc (.map #[] 0)).cell? ⟨0,0,none⟩=some (.int .i64 m)):=by
  show _=_
  rw [World.cell?_alloc_lt w _ _ hg];exact hm
 clear hm
 go_enter Tryz.func106,Tryz.ntmps106
 go_wp2_with fail
 refine (split_kept _ m HM.out).mono ?_
 rintro e w1 ⟨rfl,hw1⟩
 clear hmm
 have hS:Hid (KeptW (w.heap.size+1) (w.alloc (.map #[] 0)) w1):=by
  have:=keptW_made (w.alloc (.map #[] 0))
  rw [← hw1] at this
  show KeptW _ _ _
  simpa using this
 have hM:Hid (KeptM w.heap.size w.heap.size 0 w w1):=by
  refine ⟨?_,.map [],?_,keptD_zero⟩
  ·rw [hw1];exact ((Below.refl _ _).alloc (Nat.le_refl _) _).alloc (by simp) _
  ·rw [hw1];exact (World.ownsMap_made w Tryz.prog 9 _).alloc _
 have hz:Hid (w1.heap.size=w.heap.size+2):=by show _=_;rw [hw1];simp
 clear hw1 HM
 rw [show (w.alloc (.map #[] 0)).heap.size=w.heap.size+1 by simp]
 go_wp2_with fail
 go_loopw [7,3] (fun i _ w'=>∃ k:Nat,k≤21∧i = .int .i64 k∧KeptM w.heap.size w.heap.size k w w'∧(∀ j,j < 21→w'.cell? ⟨w.heap.size+1,j,none⟩=some (.string (str (kw j))))∧w.heap.size+2≤w'.heap.size) (fun i _ _=>21 - (intOf i).toNat)
 case atStart=>exact ⟨0,Nat.zero_le _,rfl,hM.out,hS.out.cell,by rw [hz.out];exact Nat.le_refl _⟩
 case round =>
  obtain ⟨k,hk,rfl,hm,hc,hs⟩:=hrel
  have HM:=Lib.hid hm
  have HC:=Lib.hid hc
  clear hm hc hM hS hz
  by_cases hlt:k < 21
  ·have hcell:=HC.out k hlt
   have HLEN:=Lib.hid (kw_len k)
   have HKEY:Hid (keyOf Tryz.prog 9 (.string (str (kw k)))=some (.string (kw k))):=by
    have:=WideMaps.keyOf_string_mk (P:=Tryz.prog) (k:=9) Tryz.underlying9 (s:=str (kw k)) (by rw [str_size];have:=kw_len k;unfold maxLen;omega)
    rw [str_data] at this;exact this
   obtain ⟨D,hown,hD⟩:=HM.out.own
   have HOWN:=Lib.hid hown
   have HD:=Lib.hid (keptD_step hD hlt)
   clear hown hD
   go_wp2_with (first | (at_mapUpdate;refine wpList_mapUpdate_own _ rfl _ _ _ 111 rfl 9 4 (string_keyed Tryz.underlying9) Tryz.underlying111 (plainElem Tryz.prog 4) w.heap.size k D rfl HOWN.out (by unfold maxLen;omega) _ _ (.string (kw k)) rfl rfl HKEY.out (.lit (.bool true)) [] (plainElem_bool Tryz.underlying4 true) ?_;intro w2 hown2 hgrow2))
   go_roundw
   case rel =>
    refine ⟨k+1,by omega,by go_num,⟨?_,_,hown2,HD.out⟩,fun j h=>?_,?_⟩
    ·exact HM.out.below.grown hgrow2 (by omega) (fun k e=>by cases e;exact Nat.le_refl _)
    ·rw [hgrow2.cell_far _ (by show w.heap.size+1 < _;omega) (by simp)];exact HC.out j h
    ·have:=hgrow2.size;omega
   case measure=>simp [intOf];omega
  ·obtain rfl:k=21:=by omega
   go_wp2_with fail
   go_ret
   exact ⟨_,rfl,HM.out⟩
theorem plainElem_bool_inv {P:Program} {e:TypeId} (he:P.underlying e=some .bool) {v:Value} {z:DataW Unit × List MemPlace} (h:plainElem P e v=some z):∃ b,v = .bool b∧z.1 = .lit (.bool b):=by
 unfold plainElem at h
 rw [he] at h
 cases v <;> simp at h
 exact ⟨_,rfl,by rw [← h]⟩
theorem zero_bool (w:World):(zeroValue 4).run Tryz.prog w = .ok (.bool false) w:=by kernel_rfl
theorem Kept_c (s:List UInt8) (hs:s.length≤1000000) (w:World) (hE:Env w) :
 Calls Tryz.prog 80 #[.string (str s)] w fun e w'=>e = .returned (.bool (keptE s))∧Below w.heap.size w w':=by
 obtain ⟨m,hm⟩:=hE.mlen
 have HC:=Lib.hid (kept_c w m hm hE.hm)
 clear hm hE
 go_enter Tryz.func80,Tryz.ntmps80
 go_wp2_with fail
 refine HC.out.mono ?_
 rintro e w1 ⟨g,rfl,hM⟩
 obtain ⟨D,hown,hD⟩:=hM.own
 have hkey:keyOf Tryz.prog 9 (.string (str s))=some (.string s):=by
  have:=WideMaps.keyOf_string_mk (P:=Tryz.prog) (k:=9) Tryz.underlying9 (s:=str s) (by rw [str_size];unfold maxLen;omega)
  rw [str_data] at this;exact this
 obtain ⟨v,ps,hrun,hv⟩:=hown.lookup (string_keyed Tryz.underlying9) Tryz.underlying111 (zero_bool w1) (plainElem_bool Tryz.underlying4 false) hkey
 rw [hD.2 s] at hv
 obtain ⟨b,rfl,hb⟩:=plainElem_bool_inv Tryz.underlying4 hv
 have hbk:Hid (b=keptE s):=by
  rw [List.take_of_length_le (by rw [keptL_len];exact Nat.le_refl _)] at hb
  injection hb with hb
  injection hb with hb
  exact hb.symm
 have HB:=Lib.hid hM.below
 clear hv hb hkey hown hD hM HC
 go_wp2_with fail
 go_ret
 exact ⟨ret_bool hbk.out,HB.out⟩
end Go.Proofs.YtaoeaaebafcegaaGreatDoor

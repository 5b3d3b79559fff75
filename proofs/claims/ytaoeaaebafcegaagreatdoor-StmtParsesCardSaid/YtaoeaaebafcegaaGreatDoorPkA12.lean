/- Chapter 04 (statements), joined: RScanC, ParA, ParB. -/
import Derived.Test.YtaoeaaebafcegaaGreatDoorPkA07
import Derived.Test.YtaoeaaebafcegaaGreatDoorPkA11
import Derived.Maps.AppendAt
import Derived.RegionTactic
set_option maxRecDepth 100000
set_option maxHeartbeats 2000000
namespace Go.Proofs.YtaoeaaebafcegaaGreatDoor
open Go Go.RowKit
set_option linter.unusedVariables false
theorem info_tok:(Tryz.prog.info? 52).map (fun i=>(i.zero,i.size,i.bytes))=some (some (.agg #[.int .i64 0,.string ByteArray.empty,.int .i64 0,.int .i64 0]),4,40):=by kernel_rfl
def ScanPost (R:List Tok × Int × Int) (w:World) (e:Ending) (w':World):Prop :=
 ∃ v,e = .returned (.tuple #[v,.int .i64 R.2.1,.int .i64 R.2.2])∧Toks w' v R.1∧Below w.heap.size w w'
structure ScanInv (s:ByteArray) (w:World) (p:Nat) (ts:List Tok) (v:Value) (wr:World):Prop where
 le:p≤s.size
 tp:ts.length≤p
 own:wr.ownsRow w.heap.size 52 4 v ts.length (ts.flatMap Tok.cells)
 below:Below w.heap.size w wr
 res:comb ts (scanS p (s.data.toList.drop p))=scanE s.data.toList
theorem tok_letter {c:UInt8} {r:List UInt8} (h:letterE c=true) (pos:Int):tokE (c :: r) pos=if ((c :: r).takeWhile ldE).length≤16 then .inl (⟨1,(c :: r).takeWhile ldE,0,pos⟩,((c :: r).takeWhile ldE).length) else .inr 2:=by
 simp only [tokE,h,if_true]
theorem tok_digit {c:UInt8} {r:List UInt8} (h:letterE c=false) (h2:digitE c=true) (pos:Int):tokE (c :: r) pos=if valD ((c :: r).takeWhile digitE)≤4294967296 then .inl (⟨2,(c :: r).takeWhile digitE,valD ((c :: r).takeWhile digitE),pos⟩,((c :: r).takeWhile digitE).length) else .inr 4:=by
 simp only [tokE,h,h2,if_true];rfl
theorem tok_sign {c:UInt8} {r:List UInt8} (h:letterE c=false) (h2:digitE c=false) (pos:Int):tokE (c :: r) pos=if signE (c :: r)=0 then .inr 3 else .inl (⟨3,(c :: r).take (signE (c :: r)),0,pos⟩,signE (c :: r)):=by
 simp only [tokE,h,h2];rfl
theorem ScanInv.err {s:ByteArray} {w wr:World} {p:Nat} {ts:List Tok} {v:Value} (h:ScanInv s w p ts v wr) (hp:p < s.size) {e:Int} (he:e≠0) (ht:tokE (s.data.toList.drop p) p = .inr e) :
 scanE s.data.toList=([],e,(p:Int)):=by
 rw [← h.res]
 rw [drop_at s p hp] at ht ⊢
 rw [scanS_err ht,comb_err _ _ _ he]
theorem ScanInv.fin {s:ByteArray} {w wr:World} {ts:List Tok} {v:Value} (h:ScanInv s w s.size ts v wr):scanE s.data.toList=(ts,0,0):=by
 rw [← h.res,drop_end s s.size (Nat.le_refl _),scanS_nil,comb_end]
theorem ScanInv.step {s:ByteArray} {w wr w':World} {p:Nat} {ts:List Tok} {v v':Value} (h:ScanInv s w p ts v wr) (hp:p < s.size) {t:Tok} {n:Nat} (ht:tokE (s.data.toList.drop p) p = .inl (t,n))
 (hown:w'.ownsRow w.heap.size 52 4 v' (ts.length+1) (ts.flatMap Tok.cells++t.cells)) (hb:Below w.heap.size w w') :
 ScanInv s w (p+n+pastA false (s.data.toList.drop (p+n))) (ts++[t]) v' w':=by
 have hl:=tokE_len ht
 have hle:n≤s.size - p:=by simpa using hl.2.1
 have hpl:=pastA_le false (s.data.toList.drop (p+n))
 rw [List.length_drop] at hpl
 have hsz:s.data.toList.length=s.size:=by simp
 refine ⟨by omega,by have:=h.tp;simp;omega,by simpa using hown,hb,?_⟩
 rw [← h.res]
 have e1:=drop_at s p hp
 rw [e1] at ht
 rw [e1,scanS_tok ht,comb_comb,← e1,List.drop_drop,List.drop_drop]
theorem all_succ {p:UInt8→Bool} {s:ByteArray} {a q:Nat} (h:∀ j (h:j < q) (h':j < s.size),a≤j→p s[j] = true) (hq:q < s.size) (hp:p (s[q]'hq)=true) :
 ∀ j (h:j < q+1) (h':j < s.size),a≤j→p s[j] = true:=fun j hj h' ha=>by
 by_cases h2:j < q
 ·exact h j h2 h' ha
 ·obtain rfl:j=q:=by omega
  exact hp
theorem tw_end {p:UInt8→Bool} {s:ByteArray} {a q:Nat} (haq:a≤q) (hq:q≤s.size) (h:∀ j (h:j < q) (h':j < s.size),a≤j→p s[j] = true)
 (hend:¬ q < s.size∨∃ h:q < s.size,p (s[q]'h)=false):((s.data.toList.drop a).takeWhile p).length=q - a:=by
 have hsz:s.data.toList.length=s.size:=by simp
 have hg:∀ j (hj:j < (s.data.toList.drop a).length),(s.data.toList.drop a)[j] = s[a+j]'(by rw [List.length_drop] at hj;omega):=fun j hj=>by
  rw [List.getElem_drop];rfl
 rcases hend with he | ⟨hl,he⟩
 ·have:q=s.size:=by omega
  subst this
  rw [tw_full _ (fun j hj=>by rw [hg j hj];rw [List.length_drop] at hj;exact h _ (by omega) (by omega) (by omega))]
  rw [List.length_drop];omega
 ·refine tw_stop _ (q - a) (by rw [List.length_drop];omega) (fun j hj=>?_) ?_
  ·rw [hg j (by rw [List.length_drop];omega)];exact h _ (by omega) (by omega) (by omega)
  ·rw [hg (q - a) (by rw [List.length_drop];omega)]
   have:a+(q - a)=q:=by omega
   simp only [this];exact he
theorem ScanInv.step' {s:ByteArray} {w wr w':World} {p q:Nat} {ts:List Tok} {v v':Value} (h:ScanInv s w p ts v wr) (hp:p < s.size) (hq:p≤q) {t:Tok} (ht:tokE (s.data.toList.drop p) p = .inl (t,q - p))
 (hown:w'.ownsRow w.heap.size 52 4 v' (ts.length+1) (ts.flatMap Tok.cells++t.cells)) (hb:Below w.heap.size w w') :
 ScanInv s w (q+pastA false (s.data.toList.drop q)) (ts++[t]) v' w':=by
 have:=h.step hp ht hown hb
 rw [show p+(q - p)=q by omega] at this
 exact this
theorem cells_new4 (w:World) (a b c d:Value) (t:TypeId):∀ j u,[a,b,c,d][j]? = some u→(w.alloc (.cells #[a,b,c,d] t)).cell? ((⟨w.heap.size,0,none⟩:Addr).add j)=some u:=by
 intro j u hj
 match j,hj with
 | 0,hj=>simp at hj;subst hj;simp [Addr.add]
 | 1,hj=>simp at hj;subst hj;simp [Addr.add]
 | 2,hj=>simp at hj;subst hj;simp [Addr.add]
 | 3,hj=>simp at hj;subst hj;simp [Addr.add]
 | j+4,hj=>simp at hj
theorem scan_ret {l:List UInt8} {R:List Tok × Int × Int} (hR:scanE l=R) {w w':World} {v:Value} (hv:Toks w' v R.1) (hb:Below w.heap.size w w') :
 ScanPost (scanE l) w (.returned (.tuple #[v,.int .i64 R.2.1,.int .i64 R.2.2])) w':=by
 subst hR;exact ⟨v,rfl,hv,hb⟩
theorem scan_none {l:List UInt8} {e p:Int} (hR:scanE l=([],e,p)) {w w':World} (hb:Below w.heap.size w w') :
 ScanPost (scanE l) w (.returned (.tuple #[.slice none 0 0,.int .i64 e,.int .i64 p])) w':=scan_ret hR (Sl.nil _ _ _) hb
theorem tok_block {wr w4:World} {a b c d:Value} {t:TypeId} (h:Below (wr.alloc (.cells #[a,b,c,d] t)).heap.size (wr.alloc (.cells #[a,b,c,d] t)) w4) :
 wr.heap.size+1≤w4.heap.size∧w4.cell? ⟨wr.heap.size,0,none⟩=some a∧w4.cell? ⟨wr.heap.size,1,none⟩=some b∧w4.cell? ⟨wr.heap.size,2,none⟩=some c∧w4.cell? ⟨wr.heap.size,3,none⟩=some d ∧
 w4.frozen? ⟨wr.heap.size,0,none⟩=false∧w4.frozen? ⟨wr.heap.size,1,none⟩=false∧w4.frozen? ⟨wr.heap.size,2,none⟩=false∧w4.frozen? ⟨wr.heap.size,3,none⟩=false:=by
 have hs:=h.size
 have hl:wr.heap.size < (wr.alloc (.cells #[a,b,c,d] t)).heap.size:=by rw [World.size_alloc];omega
 rw [World.size_alloc] at hs
 refine ⟨hs,?_,?_,?_,?_,?_,?_,?_,?_⟩
 iterate 4 rw [h.cell (p:=⟨wr.heap.size,_,none⟩) hl,World.cell?_alloc_new];rfl
 all_goals
  rw [h.frozen (p:=⟨wr.heap.size,_,none⟩) hl]
  simp
theorem grown_set (w:World) (p:Addr) (v:Value):w.grownBy (w.setCell p v) (some p.block) :=
 ⟨rfl,rfl,rfl,by simp [World.setCell],fun k _ hne=>Below.heap_setCell _ _ _ _ (fun e=>hne (by rw [e]))⟩
theorem apd_facts {s:ByteArray} {w wr w4:World} {p:Nat} {ts:List Tok} {v a b c d a' b' c' d' u:Value} {k:Nat} (h:ScanInv s w p ts v wr)
 (hb:Below (wr.alloc (.cells #[a,b,c,d] 52)).heap.size (wr.alloc (.cells #[a,b,c,d] 52)) w4) :
 ((w4.setCell ⟨wr.heap.size,k,none⟩ u).alloc (.cells #[a',b',c',d'] 52)).ownsRow w.heap.size 52 4 v ts.length (ts.flatMap Tok.cells) ∧
 Below w.heap.size w ((w4.setCell ⟨wr.heap.size,k,none⟩ u).alloc (.cells #[a',b',c',d'] 52)) ∧
 (∀ j x,[a',b',c',d'][j]? = some x→((w4.setCell ⟨wr.heap.size,k,none⟩ u).alloc (.cells #[a',b',c',d'] 52)).cell? ((⟨w4.heap.size,0,none⟩:Addr).add j)=some x) ∧
 w.heap.size≤((w4.setCell ⟨wr.heap.size,k,none⟩ u).alloc (.cells #[a',b',c',d'] 52)).heap.size:=by
 have hs:=hb.size
 have hw:=h.below.size
 have hsz:(w4.setCell ⟨wr.heap.size,k,none⟩ u).heap.size=w4.heap.size:=by simp [World.setCell]
 rw [World.size_alloc] at hs
 refine ⟨World.ownsRow.alloc (World.ownsRow.kept (own_below (h.own.alloc _) hb) (grown_set _ _ _) (.inr ?_)) _,?_,?_,?_⟩
 ·intro e
  have:=(h.own.lt _ e).2
  exact absurd this (Nat.lt_irrefl _)
 ·exact ((((h.below.alloc hw _).trans (hb.mono (by rw [World.size_alloc];omega))).setCell (p:=⟨wr.heap.size,k,none⟩) hw _).alloc (by rw [hsz];omega) _)
 ·have:=cells_new4 (w4.setCell ⟨wr.heap.size,k,none⟩ u) a' b' c' d' 52
  rw [hsz] at this
  exact this
 ·rw [World.size_alloc,hsz];omega
def capD (l:List UInt8):Nat:=l.foldl (fun n c=>if n≤4294967296 then 10*n+(c.toNat - 48) else n) 0
theorem capD_snoc (l:List UInt8) (c:UInt8):capD (l++[c])=if capD l≤4294967296 then 10*capD l+(c.toNat - 48) else capD l:=by
 unfold capD;rw [List.foldl_append];rfl
theorem cap_gen : ∀ (l : List UInt8) (a b : Nat), (a ≤ 4294967296 → a = b) → (4294967296 < a → 4294967296 < b) →
    (l.foldl (fun n c => if n ≤ 4294967296 then 10 * n + (c.toNat - 48) else n) a ≤ 4294967296 → l.foldl (fun n c => if n ≤ 4294967296 then 10 * n + (c.toNat - 48) else n) a = l.foldl (fun n c => 10 * n + (c.toNat - 48)) b) ∧
    (4294967296 < l.foldl (fun n c => if n ≤ 4294967296 then 10 * n + (c.toNat - 48) else n) a → 4294967296 < l.foldl (fun n c => 10 * n + (c.toNat - 48)) b)
  | [], _, _, h1, h2 => ⟨h1, h2⟩
  | c :: l, a, b, h1, h2 => by
    simp only [List.foldl_cons]
    refine cap_gen l _ _ (fun h => ?_) (fun h => ?_)
    · by_cases ha : a ≤ 4294967296
      · rw [if_pos ha, h1 ha]
      · rw [if_neg ha] at h; omega
    · by_cases ha : a ≤ 4294967296
      · rw [if_pos ha, h1 ha] at h; exact h
      · have := h2 (by omega); omega
theorem capD_eq (l:List UInt8):(capD l≤4294967296→capD l=valD l)∧(4294967296 < capD l→4294967296 < valD l) :=
 cap_gen l 0 0 (fun _=>rfl) (fun h=>h)
theorem cap_le : ∀ (l : List UInt8) (a : Nat), a ≤ 42949673300 → l.foldl (fun n c => if n ≤ 4294967296 then 10 * n + (c.toNat - 48) else n) a ≤ 42949673300
  | [], _, h => h
  | c :: l, a, h => by
    simp only [List.foldl_cons]
    refine cap_le l _ ?_
    have := c.toNat_lt
    split <;> omega
theorem capD_le (l:List UInt8):capD l≤42949673300:=cap_le l 0 (by decide)
theorem below_drewN {B:Nat} {a w:World} (h:Below B a w) (n:Nat):Below B a (w.drewN n):=⟨h.os,h.tape,h.output,h.size,h.block⟩
theorem setCell_drewN (w:World) (n:Nat) (a:Addr) (v:Value):(w.drewN n).setCell a v=(w.setCell a v).drewN n:=rfl
theorem alloc_drewN (w:World) (n:Nat) (o:Obj):(w.drewN n).alloc o=(w.alloc o).drewN n:=rfl
attribute [local simp, local go_sem] setCell_drewN alloc_drewN
theorem take_at (s:ByteArray) (p q:Nat) (hpq:p≤q) (hq:q < s.size):(s.data.toList.drop p).take (q+1 - p)=(s.data.toList.drop p).take (q - p)++[s[q]]:=by
 have e:q+1 - p=q - p+1:=by omega
 rw [e,List.take_add_one,List.getElem?_drop]
 have:p+(q - p)=q:=by omega
 rw [this,List.getElem?_eq_getElem (by simpa using hq)]
 rfl
theorem digit_int {c:UInt8} (h:digitE c=true):(48:Int)≤(c.toNat:Int)∧(c.toNat:Int)≤57:=by
 rw [digitE_int] at h;simpa using h
theorem tok_one (t:Tok):∀ u∈t.cells,u.oneCell' = true:=by
 intro u hu
 simp only [Tok.cells,List.mem_cons,List.not_mem_nil,or_false] at hu
 rcases hu with rfl | rfl | rfl | rfl <;> rfl
theorem scan_t (s:ByteArray) (hs:s.size≤1000000) (h4:s.size≤4000) (w:World) :
 Calls Tryz.prog 25 #[.string s] w (ScanPost (scanE s.data.toList) w):=by
 obtain ⟨i0,hi,hz0,hz1,hz2⟩:=info_parts info_tok
 have hd4:decide ((4000:Int) < (s.size:Int))=false:=by simp;omega
 go_enter Tryz.func25,Tryz.ntmps25
 go_wp2_with fail
 refine (past_c s 0 hs (Nat.zero_le _) _).mono ?_
 rintro e w1 ⟨rfl,rfl⟩
 go_wp2_with fail
 go_loopw [5,6,7,8] (fun v i _ _ wr=>∃ (p:Nat) (ts:List Tok),i = .int .i64 p∧ScanInv s w p ts v wr) (fun _ i _ _ _=>s.size - (intOf i).toNat)
 case atStart =>
  refine ⟨pastA false s.data.toList,[],rfl,by have:=pastA_le false s.data.toList;simpa using this,Nat.zero_le _,?_,(Below.refl _ _).alloc (Nat.le_refl _) _,?_⟩
  ·have:=World.ownsRow_made (base:=w.heap.size) (e:=52) (size:=4) w #[] 0 (Nat.le_refl _) (Nat.zero_le _) rfl
   simpa using this
  ·unfold scanE;rw [if_pos (by simpa using h4)]
 case round =>
  obtain ⟨p,ts,rfl,hinv⟩:=hrel
  have HI:=Lib.hid hinv
  have hple:=hinv.le
  have HSZ:Hid (w.heap.size≤wr.heap.size):=hinv.below.size
  clear hinv
  by_cases hlt:p < s.size
  ·have hb255:((s[p]'hlt).toNat:Int) < 256:=by have:=(s[p]'hlt).toNat_lt;omega
   have HD:=Lib.hid (drop_at s p hlt)
   cases hl:letterE (s[p]'hlt)
   ·have HL:Hid (∀ u,Calls Tryz.prog 43 #[.int .u8 (s[p]'hlt).toNat] u fun e w'=>e = .returned (.bool false)∧u=w'):=fun u=>by rw [← hl];exact rletter_c _ u
    cases hl2:digitE (s[p]'hlt)
    ·have HT:=Lib.hid (tok_sign (r:=s.data.toList.drop (p+1)) hl hl2 p)
     have HDG:Hid (∀ u,Calls Tryz.prog 44 #[.int .u8 (s[p]'hlt).toNat] u fun e w'=>e = .returned (.bool false)∧u=w'):=fun u=>by rw [← hl2];exact rdigit_c _ u
     have HSG:Hid (∀ u:World,Calls Tryz.prog 45 #[.string s,.int .i64 p] u fun e w'=>e = .returned (.int .i64 (signE (s.data.toList.drop p)))∧Below u.heap.size u w'):=fun u=>sign_c s p hs hlt u
     have HSL:Hid (signE (s.data.toList.drop p)≤s.size - p):=by
      have:=signE_le (s.data.toList.drop p)
      show _≤_
      simpa using this
     clear hl hl2
     have hsl:=HSL.out
     by_cases h0:signE (s.data.toList.drop p)=0
     ·have HE:Hid (scanE s.data.toList=([],3,(p:Int))):=by
       refine HI.out.err hlt (by decide) ?_
       have:=HT.out
       rw [← HD.out] at this
       rw [this,if_pos h0]
      generalize signE (List.drop p s.data.toList)=g at HSG h0 hsl
      subst h0
      go_wp2_with (first | (go_at_call 43;refine (HL.out _).mono ?_;rintro e w' ⟨rfl,rfl⟩) | (go_at_call 44;refine (HDG.out _).mono ?_;rintro e w' ⟨rfl,rfl⟩) | (go_at_call 45;refine (HSG.out _).mono ?_;rintro e w4 ⟨rfl,hb4⟩))
      refine bodyPost_ret (results_tmp3 rfl _ _ _) rfl ?_
      exact scan_none HE.out ((HI.out.below.alloc HSZ.out _).trans (hb4.mono (by rw [World.size_alloc];have:=HSZ.out;omega)))
     ·have hg1:1≤signE (s.data.toList.drop p):=by omega
      have HTK:Hid (tokE (s.data.toList.drop p) p = .inl (⟨3,(s.data.toList.drop p).take (signE (s.data.toList.drop p)),0,p⟩,signE (s.data.toList.drop p))):=by
       have:=HT.out
       rw [← HD.out] at this
       show _=_
       rw [this,if_neg h0]
      clear h0
      generalize signE (List.drop p s.data.toList)=g at HSG hg1 hsl HTK
      have HX:Hid (s.extract p (p+g)=str ((s.data.toList.drop p).take g)):=by
       show _=_
       rw [← str_of (s.extract p (p+g))]
       congr 1
       rw [← ByteArray.toList_eq,extract_toList,Nat.add_sub_cancel_left]
      generalize List.take g (List.drop p s.data.toList)=tx at HX HTK
      have hX:=HX.out
      have HLEN:Hid (ts.length+1≤maxLen∧(ts.length+1)*40≤140737488355328):=by have:=HI.out.tp;show _∧_;unfold maxLen;constructor <;> omega
      have HLT:=Lib.hid HI.out.own.lt
      have hpg:p+g≤s.size:=by omega
      have HPA:Hid (∀ u,Calls Tryz.prog 42 #[.string s,.int .i64 ((p:Int)+(g:Int))] u fun e w'=>e = .returned (.int .i64 ((p+g+pastA false (s.data.toList.drop (p+g)):Nat):Int))∧u=w'):=fun u=>by
       have:=past_c s (p+g) hs hpg u
       rw [Int.natCast_add p g] at this
       exact this
      go_wp2_with (first | (go_at_call 43;refine (HL.out _).mono ?_;rintro e w' ⟨rfl,rfl⟩) | (go_at_call 44;refine (HDG.out _).mono ?_;rintro e w' ⟨rfl,rfl⟩) | (go_at_call 45;refine (HSG.out _).mono ?_;rintro e w4 ⟨rfl,hb4⟩;obtain ⟨hs4,hc0,hc1,hc2,hc3,hf0,hf1,hf2,hf3⟩:=tok_block hb4;have HAP:=Lib.hid (apd_facts (a':=.int .i64 3) (b':=.string (str tx)) (c':=.int .i64 0) (d':=.int .i64 p) (u:=.string (str tx)) (k:=1) HI.out hb4);clear hb4) | (at_builtin;refine wpList_append_own_at _ rfl _ _ 22 rfl w.heap.size 52 i0 _ 4 40 Tryz.underlying22 hi hz0 hz1 hz2 rfl (by decide) u5 ts.length (ts.flatMap Tok.cells) rfl HAP.out.1 ⟨w4.heap.size,0,none⟩ 1 1 (Tok.cells ⟨3,tx,0,p⟩) rfl rfl HAP.out.2.2.1 (tok_one _) HLEN.out.1 HLEN.out.2 HAP.out.2.2.2 ?_;intro v2 w2 hown2 hgrow2 _hn _hb) | (go_at_call 42;refine (HPA.out _).mono ?_;rintro e w' ⟨rfl,rfl⟩))
      go_roundw
      case rel =>
       refine ⟨p+g+pastA false (s.data.toList.drop (p+g)),ts++[⟨3,tx,0,p⟩],rfl,HI.out.step' hlt (by omega) (by rw [Nat.add_sub_cancel_left];exact HTK.out) hown2 (HAP.out.2.1.grown hgrow2 HAP.out.2.2.2 (fun g hg=>(HLT.out g hg).1))⟩
      case measure =>
       have hpl:=pastA_le false (s.data.toList.drop (p+g))
       simp at hpl
       simp [intOf];omega
    ·have HT:=Lib.hid (tok_digit (r:=s.data.toList.drop (p+1)) hl hl2 p)
     have HDG:Hid (∀ u,Calls Tryz.prog 44 #[.int .u8 (s[p]'hlt).toNat] u fun e w'=>e = .returned (.bool true)∧u=w'):=fun u=>by rw [← hl2];exact rdigit_c _ u
     clear hl hl2
     go_wp2_with (first | (go_at_call 43;refine (HL.out _).mono ?_;rintro e w' ⟨rfl,rfl⟩) | (go_at_call 44;refine (HDG.out _).mono ?_;rintro e w' ⟨rfl,rfl⟩))
     clear hb255 HL HDG
     go_loopw [7] (fun i w'=>∃ q n d:Nat,p≤q∧q≤s.size∧i = .int .i64 q∧w' = (wr.alloc (.cells #[.int .i64 2,.string ⟨#[]⟩,.int .i64 n,.int .i64 p] 52)).drewN d∧n=capD ((s.data.toList.drop p).take (q - p))∧∀ j (h:j < q) (h':j < s.size),p≤j→digitE s[j] = true) (fun i _=>s.size - (intOf i).toNat)
     case atStart=>exact ⟨p,0,0,Nat.le_refl _,hple,rfl,rfl,by rw [Nat.sub_self,List.take_zero];rfl,fun j h h' h2=>absurd h (by omega)⟩
     case round =>
      obtain ⟨q,n,d,hpq,hq,rfl,rfl,hn,hall⟩:=hrel
      have HA:=Lib.hid hall
      have HNN:=Lib.hid hn
      have hnle:n≤42949673300:=by rw [hn];exact capD_le _
      clear hall hn
      have hend:(¬ q < s.size∨∃ h:q < s.size,digitE (s[q]'h)=false)∨∃ h:q < s.size,digitE (s[q]'h)=true:=by
       by_cases h:q < s.size
       ·cases h2:digitE (s[q]'h)
        ·exact .inl (.inr ⟨h,h2⟩)
        ·exact .inr ⟨h,h2⟩
       ·exact .inl (.inl h)
      rcases hend with hend | ⟨hlq,hgo⟩
      ·have HN:Hid (((s.data.toList.drop p).takeWhile digitE).length=q - p):=tw_end hpq hq HA.out hend
       have HW:Hid ((s.data.toList.drop p).takeWhile digitE=(s.data.toList.drop p).take (q - p)):=by
        show _=_
        rw [← HN.out];exact List.prefix_iff_eq_take.1 (List.takeWhile_prefix _)
       have HDG:Hid (∀ h:q < s.size,∀ u,Calls Tryz.prog 44 #[.int .u8 (s[q]'h).toNat] u fun e w'=>e = .returned (.bool false)∧u=w'):=fun h u=>by
        rcases hend with h2 | ⟨_,h2⟩
        ·exact absurd h h2
        ·rw [← h2];exact rdigit_c _ u
       by_cases hnm:n≤4294967296
       ·have HTK:Hid (tokE (s.data.toList.drop p) p = .inl (⟨2,(s.data.toList.drop p).take (q - p),n,p⟩,q - p)):=by
         have h1:=HT.out
         have h2:=HNN.out
         rw [← HD.out,HW.out] at h1
         show _=_
         have h3:=(capD_eq ((s.data.toList.drop p).take (q - p))).1 (by rw [← h2];exact hnm)
         rw [← h3,← h2] at h1
         rw [h1,List.length_take_of_le (by simp;omega),if_pos hnm]
        have HX:Hid (s.extract p q=str ((s.data.toList.drop p).take (q - p))):=by
         show _=_
         rw [← str_of (s.extract p q)]
         congr 1
         rw [← ByteArray.toList_eq,extract_toList]
        clear HW HNN HA
        generalize List.take (q - p) (List.drop p s.data.toList)=tx at HX HTK
        have hX:=HX.out
        have hnm2:¬ (4294967296:Int) < (n:Int):=by omega
        have HAP:Hid ((((wr.alloc (.cells #[.int .i64 2,.string (str tx),.int .i64 n,.int .i64 p] 52)).alloc (.cells #[.int .i64 2,.string (str tx),.int .i64 n,.int .i64 p] 52)).drewN d).ownsRow w.heap.size 52 4 u5 ts.length (ts.flatMap Tok.cells) ∧
         Below w.heap.size w (((wr.alloc (.cells #[.int .i64 2,.string (str tx),.int .i64 n,.int .i64 p] 52)).alloc (.cells #[.int .i64 2,.string (str tx),.int .i64 n,.int .i64 p] 52)).drewN d) ∧
         (∀ j u,(Tok.cells ⟨2,tx,n,p⟩)[j]? = some u→(((wr.alloc (.cells #[.int .i64 2,.string (str tx),.int .i64 n,.int .i64 p] 52)).alloc (.cells #[.int .i64 2,.string (str tx),.int .i64 n,.int .i64 p] 52)).drewN d).cell? ((⟨wr.heap.size+1,0,none⟩:Addr).add j)=some u) ∧
         w.heap.size≤(((wr.alloc (.cells #[.int .i64 2,.string (str tx),.int .i64 n,.int .i64 p] 52)).alloc (.cells #[.int .i64 2,.string (str tx),.int .i64 n,.int .i64 p] 52)).drewN d).heap.size):=by
         refine ⟨(HI.out.own.alloc _).alloc _,below_drewN ((HI.out.below.alloc HSZ.out _).alloc (by have:=HSZ.out;simp;omega) _) d,?_,by have:=HSZ.out;simp;omega⟩
         have:=cells_new4 (wr.alloc (.cells #[.int .i64 2,.string (str tx),.int .i64 n,.int .i64 p] 52)) (.int .i64 2) (.string (str tx)) (.int .i64 n) (.int .i64 p) 52
         rw [World.size_alloc] at this
         exact this
        have HLEN:Hid (ts.length+1≤maxLen∧(ts.length+1)*40≤140737488355328):=by have:=HI.out.tp;show _∧_;unfold maxLen;constructor <;> omega
        have HLT:=Lib.hid HI.out.own.lt
        have HQ:Hid (p < q):=by
         have:=(tokE_len HTK.out).1
         show p < q
         omega
        clear hnm
        rcases hend with hend | ⟨hlq,hend⟩
        ·go_wp2_with (first | (at_builtin;refine wpList_append_own_at _ rfl _ _ 22 rfl w.heap.size 52 i0 _ 4 40 Tryz.underlying22 hi hz0 hz1 hz2 rfl (by decide) u5 ts.length (ts.flatMap Tok.cells) rfl HAP.out.1 ⟨wr.heap.size+1,0,none⟩ 1 1 (Tok.cells ⟨2,tx,n,p⟩) rfl rfl HAP.out.2.2.1 (tok_one _) HLEN.out.1 HLEN.out.2 HAP.out.2.2.2 ?_;intro v2 w2 hown2 hgrow2 _hn _hb) | (go_at_call 42;refine (past_c s q hs hq _).mono ?_;rintro e w' ⟨rfl,rfl⟩))
         go_roundw
         case rel =>
          refine ⟨_,_,rfl,HI.out.step' hlt hpq HTK.out hown2 (HAP.out.2.1.grown hgrow2 HAP.out.2.2.2 (fun g hg=>(HLT.out g hg).1))⟩
         case measure =>
          have:=HQ.out
          have hpl:=pastA_le false (s.data.toList.drop q)
          simp at hpl
          simp [intOf];omega
        ·have hb255:((s[q]'hlq).toNat:Int) < 256:=by have:=(s[q]'hlq).toNat_lt;omega
         clear hend
         go_wp2_with (first | (go_at_call 44;refine (HDG.out hlq _).mono ?_;rintro e w' ⟨rfl,rfl⟩) | (at_builtin;refine wpList_append_own_at _ rfl _ _ 22 rfl w.heap.size 52 i0 _ 4 40 Tryz.underlying22 hi hz0 hz1 hz2 rfl (by decide) u5 ts.length (ts.flatMap Tok.cells) rfl HAP.out.1 ⟨wr.heap.size+1,0,none⟩ 1 1 (Tok.cells ⟨2,tx,n,p⟩) rfl rfl HAP.out.2.2.1 (tok_one _) HLEN.out.1 HLEN.out.2 HAP.out.2.2.2 ?_;intro v2 w2 hown2 hgrow2 _hn _hb) | (go_at_call 42;refine (past_c s q hs hq _).mono ?_;rintro e w' ⟨rfl,rfl⟩))
         go_roundw
         case rel =>
          refine ⟨_,_,rfl,HI.out.step' hlt hpq HTK.out hown2 (HAP.out.2.1.grown hgrow2 HAP.out.2.2.2 (fun g hg=>(HLT.out g hg).1))⟩
         case measure =>
          have:=HQ.out
          have hpl:=pastA_le false (s.data.toList.drop q)
          simp at hpl
          simp [intOf];omega
       ·have HE:Hid (scanE s.data.toList=([],4,(p:Int))):=by
         refine HI.out.err hlt (by decide) ?_
         have h1:=HT.out
         have h2:=HNN.out
         rw [← HD.out,HW.out] at h1
         have h3:=(capD_eq ((s.data.toList.drop p).take (q - p))).2 (by rw [← h2];omega)
         rw [h1,if_neg (by omega)]
        have hnm2:(4294967296:Int) < (n:Int):=by omega
        clear HW HNN HA hnm
        rcases hend with hend | ⟨hlq,hend⟩
        ·go_wp2_with fail
         refine bodyPost_ret (results_tmp3 rfl _ _ _) rfl ?_
         exact scan_none HE.out (below_drewN (HI.out.below.alloc HSZ.out _) d)
        ·have hb255:((s[q]'hlq).toNat:Int) < 256:=by have:=(s[q]'hlq).toNat_lt;omega
         clear hend
         go_wp2_with (go_at_call 44;refine (HDG.out hlq _).mono ?_;rintro e w' ⟨rfl,rfl⟩)
         refine bodyPost_ret (results_tmp3 rfl _ _ _) rfl ?_
         exact scan_none HE.out (below_drewN (HI.out.below.alloc HSZ.out _) d)
      ·have HG:=Lib.hid hgo
       have hb255:((s[q]'hlq).toNat:Int) < 256:=by have:=(s[q]'hlq).toNat_lt;omega
       have hdi:=(digit_int hgo).1
       have hdi2:=(digit_int hgo).2
       have HDG:Hid (∀ u,Calls Tryz.prog 44 #[.int .u8 (s[q]'hlq).toNat] u fun e w'=>e = .returned (.bool true)∧u=w'):=fun u=>by rw [← hgo];exact rdigit_c _ u
       clear hgo
       have HS:=Lib.hid (take_at s p q hpq hlq)
       have HC:=Lib.hid (capD_snoc ((s.data.toList.drop p).take (q - p)) (s[q]'hlq))
       by_cases hnm:n≤4294967296
       ·go_wp2_with (go_at_call 44;refine (HDG.out _).mono ?_;rintro e w' ⟨rfl,rfl⟩)
        go_region
        go_wp2_with fail
        go_roundw
        case rel =>
         refine ⟨q+1,10*n+((s[q]'hlq).toNat - 48),d+1,by omega,by omega,by go_num,?_,?_,all_succ HA.out hlq HG.out⟩
         ·have e:((10*n+((s[q]'hlq).toNat - 48):Nat):Int)=10*(n:Int)+(((s[q]'hlq).toNat:Int) - 48):=by omega
          rw [e]
         ·rw [HS.out,HC.out,← HNN.out,if_pos hnm]
        case measure=>simp [intOf];omega
       ·go_wp2_with (go_at_call 44;refine (HDG.out _).mono ?_;rintro e w' ⟨rfl,rfl⟩)
        go_roundw
        case rel =>
         refine ⟨q+1,n,d,by omega,by omega,by go_num,rfl,?_,all_succ HA.out hlq HG.out⟩
         rw [HS.out,HC.out,← HNN.out,if_neg hnm]
        case measure=>simp [intOf];omega
   ·have HL:Hid (∀ u,Calls Tryz.prog 43 #[.int .u8 (s[p]'hlt).toNat] u fun e w'=>e = .returned (.bool true)∧u=w'):=fun u=>by rw [← hl];exact rletter_c _ u
    have HT:=Lib.hid (tok_letter (r:=s.data.toList.drop (p+1)) hl p)
    clear hl
    go_wp2_with (go_at_call 43;refine (HL.out _).mono ?_;rintro e w' ⟨rfl,rfl⟩)
    clear hb255
    go_loop [7] (fun i=>∃ q:Nat,p≤q∧q≤s.size∧i = .int .i64 q∧∀ j (h:j < q) (h':j < s.size),p≤j→ldE s[j] = true) (fun i=>s.size - (intOf i).toNat)
    case atStart=>exact ⟨p,Nat.le_refl _,hple,rfl,fun j h h' h2=>absurd h (by omega)⟩
    case round =>
     obtain ⟨q,hpq,hq,rfl,hall⟩:=hrel
     have HA:=Lib.hid hall
     clear hall HL
     have hend:(¬ q < s.size∨∃ h:q < s.size,ldE (s[q]'h)=false)∨∃ h:q < s.size,ldE (s[q]'h)=true:=by
      by_cases h:q < s.size
      ·cases h2:ldE (s[q]'h)
       ·exact .inl (.inr ⟨h,h2⟩)
       ·exact .inr ⟨h,h2⟩
      ·exact .inl (.inl h)
     rcases hend with hend | ⟨hlq,hgo⟩
     ·have HN:Hid (((s.data.toList.drop p).takeWhile ldE).length=q - p):=tw_end hpq hq HA.out hend
      have HW:Hid ((s.data.toList.drop p).takeWhile ldE=(s.data.toList.drop p).take (q - p)):=by
       show _=_
       rw [← HN.out];exact List.prefix_iff_eq_take.1 (List.takeWhile_prefix _)
      by_cases h16:q - p≤16
      ·have HTK:Hid (tokE (s.data.toList.drop p) p = .inl (⟨1,(s.data.toList.drop p).take (q - p),0,p⟩,q - p)):=by
        have:=HT.out
        rw [← HD.out,HW.out] at this
        show _=_
        rw [this,List.length_take_of_le (by simp;omega),if_pos h16]
       have h16':¬ ((16:Int) < (q:Int) - (p:Int)):=by omega
       have HX:Hid (s.extract p q=str ((s.data.toList.drop p).take (q - p))):=by
        show _=_
        rw [← str_of (s.extract p q)]
        congr 1
        rw [← ByteArray.toList_eq,extract_toList]
       clear h16
       generalize List.take (q - p) (List.drop p s.data.toList)=tx at HX HTK
       have hX:=HX.out
       have HOWN:Hid (((wr.alloc (.cells #[.int .i64 1,.string (str tx),.int .i64 0,.int .i64 p] 52)).alloc (.cells #[.int .i64 1,.string (str tx),.int .i64 0,.int .i64 p] 52)).ownsRow w.heap.size 52 4 u5 ts.length (ts.flatMap Tok.cells)):=(HI.out.own.alloc _).alloc _
       have HBEL:Hid (Below w.heap.size w ((wr.alloc (.cells #[.int .i64 1,.string (str tx),.int .i64 0,.int .i64 p] 52)).alloc (.cells #[.int .i64 1,.string (str tx),.int .i64 0,.int .i64 p] 52))):=(HI.out.below.alloc HSZ.out _).alloc (by have:=HSZ.out;simp;omega) _
       have HNEWS:Hid (∀ j u,(Tok.cells ⟨1,tx,0,p⟩)[j]? = some u→((wr.alloc (.cells #[.int .i64 1,.string (str tx),.int .i64 0,.int .i64 p] 52)).alloc (.cells #[.int .i64 1,.string (str tx),.int .i64 0,.int .i64 p] 52)).cell? ((⟨wr.heap.size+1,0,none⟩:Addr).add j)=some u):=by
        have:=cells_new4 (wr.alloc (.cells #[.int .i64 1,.string (str tx),.int .i64 0,.int .i64 p] 52)) (.int .i64 1) (.string (str tx)) (.int .i64 0) (.int .i64 p) 52
        rw [World.size_alloc] at this
        exact this
       have HLEN:Hid (ts.length+1≤maxLen∧(ts.length+1)*40≤140737488355328):=by have:=HI.out.tp;show _∧_;unfold maxLen;constructor <;> omega
       have HBASE:Hid (w.heap.size≤((wr.alloc (.cells #[.int .i64 1,.string (str tx),.int .i64 0,.int .i64 p] 52)).alloc (.cells #[.int .i64 1,.string (str tx),.int .i64 0,.int .i64 p] 52)).heap.size):=by have:=HSZ.out;show _≤_;simp;omega
       have HLT:=Lib.hid HI.out.own.lt
       have HQ:Hid (p < q):=by
        have:=(tokE_len HTK.out).1
        show p < q
        omega
       rcases hend with hend | ⟨hlq,hend⟩
       ·go_wp2_with (first | (at_builtin;refine wpList_append_own_at _ rfl _ _ 22 rfl w.heap.size 52 i0 _ 4 40 Tryz.underlying22 hi hz0 hz1 hz2 rfl (by decide) u5 ts.length (ts.flatMap Tok.cells) rfl HOWN.out ⟨wr.heap.size+1,0,none⟩ 1 1 (Tok.cells ⟨1,tx,0,p⟩) rfl rfl HNEWS.out (tok_one _) HLEN.out.1 HLEN.out.2 HBASE.out ?_;intro v2 w2 hown2 hgrow2 _hn _hb) | (go_at_call 42;refine (past_c s q hs hq _).mono ?_;rintro e w' ⟨rfl,rfl⟩))
        go_roundw
        case rel =>
         refine ⟨_,_,rfl,HI.out.step' hlt hpq HTK.out hown2 (HBEL.out.grown hgrow2 HBASE.out (fun g hg=>(HLT.out g hg).1))⟩
        case measure =>
         have:=HQ.out
         have hpl:=pastA_le false (s.data.toList.drop q)
         simp at hpl
         simp [intOf];omega
       ·have hb255:((s[q]'hlq).toNat:Int) < 256:=by have:=(s[q]'hlq).toNat_lt;omega
        have hl1:=(ld_false hend).1
        have hl2:=(ld_false hend).2
        have HL:Hid (∀ u,Calls Tryz.prog 43 #[.int .u8 (s[q]'hlq).toNat] u fun e w'=>e = .returned (.bool false)∧u=w'):=fun u=>by rw [← hl1];exact rletter_c _ u
        have HDG:Hid (∀ u,Calls Tryz.prog 44 #[.int .u8 (s[q]'hlq).toNat] u fun e w'=>e = .returned (.bool false)∧u=w'):=fun u=>by rw [← hl2];exact rdigit_c _ u
        clear hl1 hl2 hend
        go_wp2_with (first | (go_at_call 43;refine (HL.out _).mono ?_;rintro e w' ⟨rfl,rfl⟩) | (go_at_call 44;refine (HDG.out _).mono ?_;rintro e w' ⟨rfl,rfl⟩) | (at_builtin;refine wpList_append_own_at _ rfl _ _ 22 rfl w.heap.size 52 i0 _ 4 40 Tryz.underlying22 hi hz0 hz1 hz2 rfl (by decide) u5 ts.length (ts.flatMap Tok.cells) rfl HOWN.out ⟨wr.heap.size+1,0,none⟩ 1 1 (Tok.cells ⟨1,tx,0,p⟩) rfl rfl HNEWS.out (tok_one _) HLEN.out.1 HLEN.out.2 HBASE.out ?_;intro v2 w2 hown2 hgrow2 _hn _hb) | (go_at_call 42;refine (past_c s q hs hq _).mono ?_;rintro e w' ⟨rfl,rfl⟩))
        go_roundw
        case rel =>
         refine ⟨_,_,rfl,HI.out.step' hlt hpq HTK.out hown2 (HBEL.out.grown hgrow2 HBASE.out (fun g hg=>(HLT.out g hg).1))⟩
        case measure =>
         have:=HQ.out
         have hpl:=pastA_le false (s.data.toList.drop q)
         simp at hpl
         simp [intOf];omega
      ·have HE:Hid (scanE s.data.toList=([],2,(p:Int))):=by
        refine HI.out.err hlt (by decide) ?_
        have:=HT.out
        rw [← HD.out] at this
        rw [this,if_neg (by rw [HN.out];exact h16)]
       have h16':((16:Int) < (q:Int) - (p:Int)):=by omega
       clear h16
       rcases hend with hend | ⟨hlq,hend⟩
       ·go_wp2_with fail
        refine bodyPost_ret (results_tmp3 rfl _ _ _) rfl ?_
        exact scan_none HE.out (HI.out.below.alloc HSZ.out _)
       ·have hb255:((s[q]'hlq).toNat:Int) < 256:=by have:=(s[q]'hlq).toNat_lt;omega
        have hl1:=(ld_false hend).1
        have hl2:=(ld_false hend).2
        have HL:Hid (∀ u,Calls Tryz.prog 43 #[.int .u8 (s[q]'hlq).toNat] u fun e w'=>e = .returned (.bool false)∧u=w'):=fun u=>by rw [← hl1];exact rletter_c _ u
        have HDG:Hid (∀ u,Calls Tryz.prog 44 #[.int .u8 (s[q]'hlq).toNat] u fun e w'=>e = .returned (.bool false)∧u=w'):=fun u=>by rw [← hl2];exact rdigit_c _ u
        clear hl1 hl2 hend
        go_wp2_with (first | (go_at_call 43;refine (HL.out _).mono ?_;rintro e w' ⟨rfl,rfl⟩) | (go_at_call 44;refine (HDG.out _).mono ?_;rintro e w' ⟨rfl,rfl⟩))
        refine bodyPost_ret (results_tmp3 rfl _ _ _) rfl ?_
        exact scan_none HE.out (HI.out.below.alloc HSZ.out _)
     ·have HG:=Lib.hid hgo
      have hb255:((s[q]'hlq).toNat:Int) < 256:=by have:=(s[q]'hlq).toNat_lt;omega
      cases h1:letterE (s[q]'hlq)
      ·have h2:digitE (s[q]'hlq)=true:=by unfold ldE at hgo;rw [h1] at hgo;simpa using hgo
       have HL:Hid (∀ u,Calls Tryz.prog 43 #[.int .u8 (s[q]'hlq).toNat] u fun e w'=>e = .returned (.bool false)∧u=w'):=fun u=>by rw [← h1];exact rletter_c _ u
       have HDG:Hid (∀ u,Calls Tryz.prog 44 #[.int .u8 (s[q]'hlq).toNat] u fun e w'=>e = .returned (.bool true)∧u=w'):=fun u=>by rw [← h2];exact rdigit_c _ u
       clear h1 h2 hgo
       go_wp2_with (first | (go_at_call 43;refine (HL.out _).mono ?_;rintro e w' ⟨rfl,rfl⟩) | (go_at_call 44;refine (HDG.out _).mono ?_;rintro e w' ⟨rfl,rfl⟩))
       go_round
       case rel=>exact ⟨q+1,by omega,by omega,by go_num,all_succ HA.out hlq HG.out⟩
       case measure=>simp [intOf];omega
      ·have HL:Hid (∀ u,Calls Tryz.prog 43 #[.int .u8 (s[q]'hlq).toNat] u fun e w'=>e = .returned (.bool true)∧u=w'):=fun u=>by rw [← h1];exact rletter_c _ u
       clear h1 hgo
       go_wp2_with (go_at_call 43;refine (HL.out _).mono ?_;rintro e w' ⟨rfl,rfl⟩)
       go_round
       case rel=>exact ⟨q+1,by omega,by omega,by go_num,all_succ HA.out hlq HG.out⟩
       case measure=>simp [intOf];omega
  ·obtain rfl:p=s.size:=by omega
   have HF:=Lib.hid HI.out.fin
   go_wp2_with fail
   refine bodyPost_ret (results_tmp3 rfl _ _ _) rfl ?_
   exact scan_ret HF.out (sl_of_own HI.out.own) HI.out.below
theorem scan_c (s:ByteArray) (hs:s.size≤1000000) (w:World) :
 Calls Tryz.prog 25 #[.string s] w (ScanPost (scanE s.data.toList) w):=by
 by_cases h4:s.size≤4000
 ·exact scan_t s hs h4 w
 ·have hd4:decide ((4000:Int) < (s.size:Int))=true:=by simp;omega
  have HE:Hid (scanE s.data.toList=([],2,4000)):=by
   show _=_
   unfold scanE;rw [if_neg (by simpa using h4)]
  clear h4
  go_enter Tryz.func25,Tryz.ntmps25
  go_wp2_with fail
  refine bodyPost_ret (results_tmp3 rfl _ _ _) rfl ?_
  exact scan_none HE.out (Below.refl _ _)
end Go.Proofs.YtaoeaaebafcegaaGreatDoor
namespace Go.Proofs.YtaoeaaebafcegaaGreatDoor
open Go Go.RowKit
set_option linter.unusedVariables false
theorem run_app_none {P:Program} (w:World) (base:Nat) (t ty e:TypeId) (i:TypeInfo) (size:Nat) (ht:P.underlying t=some (.slice e)) (hi:P.info? e=some i)
 (v:Value) (n c:Nat) (xs:List Value) (hown:w.ownsRow base e size v n xs) :
 (Builtin.append_ #[t,t] ty #[v,.slice none 0 c]).run P w = .ok v w:=by
 rcases hown.2 with ⟨rfl,rfl⟩ | ⟨g,cap,cur,rfl,_,_,hnc,_⟩
 ·simp [Builtin.append_,run_underlying ht,sizeOf,typeInfo,hi,Builtin.lenOf,Builtin.firstCells]
 ·simp [Builtin.append_,run_underlying ht,sizeOf,typeInfo,hi,Builtin.lenOf,Builtin.firstCells,hnc,storeCells]
theorem wpl_app {P:Program} {w:World} {ops:Array Oper} {rest:List Oper} {o:Oper} {a:Act} {Q:Exit→Act→World→Prop} (hgd:o.guard=none) (s x:Operand) (t:TypeId)
 (ho:o.op = .call { callee:=.builtin .append,args:=#[s,x],argTypes:=#[t,t] })
 (base:Nat) (e:TypeId) (i:TypeInfo) (z:Value) (size bytes:Nat) (ht:P.underlying t=some (.slice e)) (hi:P.info? e=some i) (hz:i.zero=some z)
 (hsize:i.size=size) (hby:i.bytes=bytes) (hzs:z.cells.size=size) (hsz:0 < size)
 (v:Value) (n:Nat) (xs:List Value) (hs:a.eval s=v) (hown:w.ownsRow base e size v n xs)
 (u:Value) (m:Nat) (news:List Value) (hx:a.eval x=u) (hu:SlN w u size m news) (h1:∀ u∈news,u.oneCell' = true)
 (h63:n+m≤maxLen) (hbytes:(n+m)*bytes≤140737488355328) (hbase:base≤w.heap.size)
 (h:∀ v' w',w'.ownsRow base e size v' (n+m) (xs++news)→Below base w w'→wpList P ops Q rest (a.put o.dst v') w'):wpList P ops Q (o :: rest) a w:=by
 obtain ⟨hl,A,c,rfl,hc,hf⟩:=hu
 have hgo:∀ (ad:Addr),A=some ad→(∀ j x,news[j]? = some x→w.cell? (ad.add j)=some x)→wpList P ops Q (o :: rest) a w:=fun ad hA hnews=>by
  subst hA
  refine wpList_append_own w hgd s x t ho base e i z size bytes ht hi hz hsize hby hzs hsz v n xs hs hown ad m c news hx hl hnews h1 h63 hbytes hbase ?_
  intro v' w' h2 h3 _
  exact h v' w' h2 ((Below.refl _ _).grown h3 hbase (fun g hg=>(hown.lt g hg).1))
 by_cases hm:0 < m
 ·obtain ⟨b,off,hA,hlt,hcell⟩:=hf hm
  refine hgo _ hA fun j x hj=>?_
  have:=hcell j x hj
  have e:(⟨b,off,none⟩:Addr).add j=⟨b,off+j,none⟩:=by
   unfold Addr.add
   split
   ·rename_i h0;subst h0;rfl
   ·rfl
  rw [e];exact this
 ·obtain rfl:m=0:=by omega
  obtain rfl:news = []:=List.eq_nil_of_length_eq_zero (by rw [hl];omega)
  cases A with
  | some ad=>exact hgo ad rfl (by simp)
  | none =>
    refine wpList_plain hgd fun K hK=>?_
    have hrun:=run_app_none (P:=P) w base t o.type e i size ht hi v n c xs hown
    unfold Oper.wp
    simp [execOp,ho,resolve,invoke,builtin,hs,hx,hrun,Result.andThen]
    refine hK _ _ (h v w ?_ (Below.refl _ _))
    simpa using hown
theorem info_nod:(Tryz.prog.info? 33).map (fun i=>(i.zero,i.size,i.bytes))=some (some (.agg #[.int .i64 0,.int .i64 0,.string ByteArray.empty,.int .i64 0]),4,40):=by kernel_rfl
theorem nod_one (l:List Nod):∀ u∈l.flatMap Nod.cells,u.oneCell' = true:=by
 intro u hu
 obtain ⟨x,_,hx⟩:=List.mem_flatMap.1 hu
 simp only [Nod.cells,List.mem_cons,List.not_mem_nil,or_false] at hx
 rcases hx with rfl | rfl | rfl | rfl <;> rfl
theorem own_nod (w:World) (base:Nat) (hb:base≤w.heap.size) (x:Nod) :
 (w.alloc (.cells #[.int .i64 x.op,.int .i64 x.n,.string (str x.name),.int .i64 x.pos] 33)).ownsRow base 33 4 (.slice (some ⟨w.heap.size,0,none⟩) 1 1) 1 ([x].flatMap Nod.cells) :=
 World.ownsRow_lit w #[.int .i64 x.op,.int .i64 x.n,.string (str x.name),.int .i64 x.pos] 1 hb (by decide) rfl
def intCell (n:Nat):List Value:=[.int .i64 (n:Int)]
abbrev Ints (w:World) (v:Value) (l:List Nat):Prop:=SlN w v 1 l.length (l.flatMap intCell)
theorem Ints.at_ {w:World} {v:Value} {l:List Nat} (h:Ints w v l) (h0:0 < l.length) :
 ∃ b off c,v = .slice (some ⟨b,off,none⟩) l.length c∧l.length≤c∧b < w.heap.size∧∀ i (hi:i < l.length),w.cell? ⟨b,off+i,none⟩=some (.int .i64 (l[i]:Int)):=by
 obtain ⟨_,A,c,hv,hc,hf⟩:=h
 obtain ⟨b,off,hA,hlt,hcell⟩:=hf h0
 subst hA
 refine ⟨b,off,c,hv,hc,hlt,fun i hi=>?_⟩
 have hg:=flat_getElem intCell 1 (fun _=>rfl) l i 0 hi (by omega)
 have:=hcell (i*1+0) _ hg
 rw [show off+(i*1+0)=off+i by omega] at this
 exact this
theorem Strs.at_ {w:World} {v:Value} {l:List (List UInt8)} (h:Strs w v l) (h0:0 < l.length) :
 ∃ b off c,v = .slice (some ⟨b,off,none⟩) l.length c∧l.length≤c∧b < w.heap.size∧∀ i (hi:i < l.length),w.cell? ⟨b,off+i,none⟩=some (.string (str l[i])):=by
 obtain ⟨_,A,c,hv,hc,hf⟩:=h
 obtain ⟨b,off,hA,hlt,hcell⟩:=hf h0
 subst hA
 refine ⟨b,off,c,hv,hc,hlt,fun i hi=>?_⟩
 have hg:=flat_getElem strCell 1 (fun _=>rfl) l i 0 hi (by omega)
 have:=hcell (i*1+0) _ hg
 rw [show off+(i*1+0)=off+i by omega] at this
 exact this
theorem cells_new (w:World) (cs:Array Value) (t:TypeId) (j:Nat) (u:Value) (h:cs[j]? = some u):(w.alloc (.cells cs t)).cell? ⟨w.heap.size,j,none⟩=some u:=by
 rw [World.cell?_alloc_new,h]
theorem sl_lit (w:World) (cs:List Value) (t:TypeId) (size n c:Nat) (hl:cs.length=n*size) (hc:n≤c):SlN (w.alloc (.cells cs.toArray t)) (.slice (some ⟨w.heap.size,0,none⟩) n c) size n cs:=by
 refine ⟨hl,_,c,rfl,hc,fun _=>⟨w.heap.size,0,rfl,by rw [World.size_alloc];omega,fun j u hj=>?_⟩⟩
 rw [Nat.zero_add]
 exact cells_new w cs.toArray t j u (by simpa using hj)
theorem al (w:World) (o:Obj):Below w.heap.size w (w.alloc o):=(Below.refl _ _).alloc (Nat.le_refl _) _
theorem rops_c (n:Nat) (hn:n < 5) (w:World):Calls Tryz.prog 134 #[.int .i64 n] w fun e w'=>∃ v,e = .returned v∧Ints w' v (opsOf n)∧Below w.heap.size w w':=by
 have h6:∀ o1 o2 o3 o4 o5 o6,Below w.heap.size w ((((((w.alloc o1).alloc o2).alloc o3).alloc o4).alloc o5).alloc o6):=fun o1 o2 o3 o4 o5 o6=>by
  refine bt (bt (bt (bt (bt (al _ _) (al _ _)) (al _ _)) (al _ _)) (al _ _)) (al _ _)
 match n,hn with
 | 0,_ =>
   go_enter Tryz.func134,Tryz.ntmps134
   go_wp2_with fail
   go_ret
   refine ⟨_,rfl,?_,h6 _ _ _ _ _ _⟩
   have:=sl_lit w [.int .i64 15] 3 1 1 1 rfl (Nat.le_refl _)
   exact (((((this.below (al _ _)).below (al _ _)).below (al _ _)).below (al _ _)).below (al _ _))
 | 1,_ =>
   go_enter Tryz.func134,Tryz.ntmps134
   go_wp2_with fail
   go_ret
   refine ⟨_,rfl,?_,h6 _ _ _ _ _ _⟩
   have:=sl_lit (w.alloc (.cells #[.int .i64 15] 3)) [.int .i64 14] 3 1 1 1 rfl (Nat.le_refl _)
   rw [World.size_alloc] at this
   exact ((((this.below (al _ _)).below (al _ _)).below (al _ _)).below (al _ _))
 | 2,_ =>
   go_enter Tryz.func134,Tryz.ntmps134
   go_wp2_with fail
   go_ret
   refine ⟨_,rfl,?_,h6 _ _ _ _ _ _⟩
   have:=sl_lit ((w.alloc (.cells #[.int .i64 15] 3)).alloc (.cells #[.int .i64 14] 3)) [.int .i64 10,.int .i64 11,.int .i64 12,.int .i64 13] 3 1 4 4 rfl (Nat.le_refl _)
   rw [World.size_alloc,World.size_alloc] at this
   exact (((this.below (al _ _)).below (al _ _)).below (al _ _))
 | 3,_ =>
   go_enter Tryz.func134,Tryz.ntmps134
   go_wp2_with fail
   go_ret
   refine ⟨_,rfl,?_,h6 _ _ _ _ _ _⟩
   have:=sl_lit (((w.alloc (.cells #[.int .i64 15] 3)).alloc (.cells #[.int .i64 14] 3)).alloc (.cells #[.int .i64 10,.int .i64 11,.int .i64 12,.int .i64 13] 3)) [.int .i64 5,.int .i64 6] 3 1 2 2 rfl (Nat.le_refl _)
   rw [World.size_alloc,World.size_alloc,World.size_alloc] at this
   exact ((this.below (al _ _)).below (al _ _))
 | 4,_ =>
   go_enter Tryz.func134,Tryz.ntmps134
   go_wp2_with fail
   go_ret
   refine ⟨_,rfl,?_,h6 _ _ _ _ _ _⟩
   have:=sl_lit ((((w.alloc (.cells #[.int .i64 15] 3)).alloc (.cells #[.int .i64 14] 3)).alloc (.cells #[.int .i64 10,.int .i64 11,.int .i64 12,.int .i64 13] 3)).alloc (.cells #[.int .i64 5,.int .i64 6] 3)) [.int .i64 7,.int .i64 8,.int .i64 9] 3 1 3 3 rfl (Nat.le_refl _)
   rw [World.size_alloc,World.size_alloc,World.size_alloc,World.size_alloc] at this
   exact (this.below (al _ _))
def sgV:List Value:=sgnL.map fun t=>.string (str t)
theorem sgV_at (op:Nat) (h:op < sgV.length):sgV[op] = .string (str (sg op)):=by
 have h2:op < sgnL.length:=by simpa [sgV] using h
 have h3:(sgnL.map fun t=>Value.string (str t))[op]'(by simpa using h2) = .string (str (sg op)):=by
  rw [List.getElem_map]
  congr 2
  unfold sg
  rw [List.getD_eq_getElem?_getD,List.getElem?_eq_getElem h2];rfl
 exact h3
theorem rsign_c (op:Nat) (hn:op < 16) (w:World):Calls Tryz.prog 126 #[.int .i64 op] w fun e w'=>e = .returned (.string (str (sg op)))∧Below w.heap.size w w':=by
 go_enter Tryz.func126,Tryz.ntmps126
 go_wp2_with fail
 go_ret
 exact ⟨congrArg Ending.returned (sgV_at op hn),al _ _⟩
def rdE (L:Value) (t e p:Int):Value:=.agg #[L,.int .i64 t,.int .i64 e,.int .i64 p]
theorem rbad_c (l:List Tok) (hl:l.length≤100000) (i:Nat) (e0:Int) (v:Value) (w:World) (hv:Toks w v l) :
 Calls Tryz.prog 146 #[v,.int .i64 i,.int .i64 e0] w fun e w'=>e = .returned (rdE (.slice none 0 0) 0 (if l.length≤i then 6 else e0) (placeE l i))∧Below w.heap.size w w':=by
 have HP:Hid (∀ u:World,Toks u v l→Calls Tryz.prog 71 #[v,.int .i64 i] u (PlacePostD l i u)):=fun u hu=>rplace_c l (by omega) i v u hu
 obtain ⟨A,c,rfl,hc⟩:=hv.shape
 have HV:=Lib.hid hv
 clear hv
 by_cases h:l.length≤i
 ·rw [if_pos h]
  go_enter Tryz.func146,Tryz.ntmps146
  go_wp2_with (go_at_call 71;refine (HP.out _ (HV.out.below ((Below.refl _ _).alloc (Nat.le_refl _) _))).mono ?_;rintro e w1 ⟨rfl,hb1⟩;obtain ⟨hs4,hc0,hc1,hc2,hc3,hf0,hf1,hf2,hf3⟩:=tok_block hb1)
  have hB:Below w.heap.size w w1:=bt (al _ _) hb1
  refine bodyPost_ret (v:=rdE (.slice none 0 0) 0 6 (placeE l i)) (by simp [results,Tryz.results146,go_sem,hc0,hc1,hc2,hc3,rdE]) rfl ⟨rfl,?_⟩
  exact below_set (below_set (below_set (below_set hB (Nat.le_refl _) _) (Nat.le_refl _) _) (Nat.le_refl _) _) (Nat.le_refl _) _
 ·rw [if_neg h]
  go_enter Tryz.func146,Tryz.ntmps146
  go_wp2_with (go_at_call 71;refine (HP.out _ (HV.out.below ((Below.refl _ _).alloc (Nat.le_refl _) _))).mono ?_;rintro e w1 ⟨rfl,hb1⟩;obtain ⟨hs4,hc0,hc1,hc2,hc3,hf0,hf1,hf2,hf3⟩:=tok_block hb1)
  have hB:Below w.heap.size w w1:=bt (al _ _) hb1
  refine bodyPost_ret (v:=rdE (.slice none 0 0) 0 e0 (placeE l i)) (by simp [results,Tryz.results146,go_sem,hc0,hc1,hc2,hc3,rdE]) rfl ⟨rfl,?_⟩
  exact below_set (below_set (below_set (below_set hB (Nat.le_refl _) _) (Nat.le_refl _) _) (Nat.le_refl _) _) (Nat.le_refl _) _
end Go.Proofs.YtaoeaaebafcegaaGreatDoor

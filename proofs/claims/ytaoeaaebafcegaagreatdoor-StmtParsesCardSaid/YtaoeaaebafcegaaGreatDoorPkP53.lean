/- Chapter 04 (statements), joined: StLwG. -/
import Derived.Test.YtaoeaaebafcegaaGreatDoorPkA45
import Derived.Test.YtaoeaaebafcegaaGreatDoorPkE46
import Derived.Test.YtaoeaaebafcegaaGreatDoorPkD47
import Derived.Test.YtaoeaaebafcegaaGreatDoorPkP52
set_option maxRecDepth 100000
set_option maxHeartbeats 16000000
namespace Go.Proofs.YtaoeaaebafcegaaGreatDoor
open Go Go.RowKit
set_option linter.unusedVariables false
theorem some_setCell {w:World} {a:Addr} (h:∃ u,w.cell? a=some u) (b:Addr) (v:Value):∃ u,(w.setCell b v).cell? a=some u:=by
 obtain ⟨m,hm⟩:=h
 by_cases e:b=a
 ·subst e
  exact ⟨v,World.cell?_setCell_same _ _ _ hm⟩
 ·exact ⟨m,(World.cell?_setCell_other _ _ _ _ e).trans hm⟩
theorem off_blk {S:Nat→Prop} {w:World} {b off n c:Nat} {l:List Nod} (h:Off S w (fun u=>Nods u (.slice (some ⟨b,off,none⟩) n c) l)) (h0:0 < l.length):¬ S b:=by
 intro hS
 have h1:=h.now
 have h2:=(h.setCell ⟨b,off,none⟩ hS (.string ⟨#[]⟩)).now
 obtain ⟨b1,o1,c1,e1,_,_,g1⟩:=Nods.at_ (l:=l) h1 h0
 obtain ⟨b2,o2,c2,e2,_,_,g2⟩:=Nods.at_ (l:=l) h2 h0
 cases e1
 injection e2 with e2 e3 e4
 injection e2 with e2
 injection e2 with e2 e5
 subst e2 e5
 have x1:=(g1 0 h0).op
 have x2:=(g2 0 h0).op
 simp only [Nat.zero_mul,Nat.add_zero] at x1 x2
 rw [World.cell?_setCell_same _ _ _ x1] at x2
 cases x2
structure Wr (w:World) (B g:Nat) (pl:List Sv):Prop where
 shp:∀ m (h:m < pl.length),∃ A c,pl[m].ev = .slice A pl[m].s.e.length c
 ev:∀ m (h:m < pl.length),w.cell? ⟨g,m*9+3,none⟩=some pl[m].ev
 n:∀ m,m < pl.length→∃ u,w.cell? ⟨g,m*9+5,none⟩=some u
 fz:∀ k,w.frozen? ⟨g,k,none⟩=false
 nod:∀ m (h:m < pl.length),0 < pl[m].s.e.length→∃ b off c,pl[m].ev = .slice (some ⟨b,off,none⟩) pl[m].s.e.length c∧pl[m].s.e.length≤c∧B≤b∧b≠g∧(∃ u,w.cell? ⟨b,off+1,none⟩=some u)∧w.frozen? ⟨b,off+1,none⟩=false
theorem Wr.set {w:World} {B g b o:Nat} {pl:List Sv} (h:Wr w B g pl) (u:Value) (hne:b≠g∨o % 9=5):Wr (w.setCell ⟨b,o,none⟩ u) B g pl:=by
 refine ⟨h.shp,fun m hm=>?_,fun m hm=>some_setCell (h.n m hm) _ _,fun k=>by rw [World.frozen?_setCell];exact h.fz k,fun m hm h0=>?_⟩
 ·rw [World.cell?_setCell_other]
  ·exact h.ev m hm
  ·intro e
   injection e with e1 e2
   subst e1 e2
   rcases hne with h | h
   ·exact h rfl
   ·omega
 ·obtain ⟨b1,o1,c1,e1,e2,e3,e4,e5,e6⟩:=h.nod m hm h0
  exact ⟨b1,o1,c1,e1,e2,e3,e4,some_setCell e5 _ _,by rw [World.frozen?_setCell];exact e6⟩
theorem wr_of {w:World} {n0 g c:Nat} {pl:List Sv} (h:SOwP (fun k=>k < n0) n0 w (.slice (some ⟨g,0,none⟩) pl.length c) pl):Wr w n0 g pl:=by
 have hs:=h.svs
 have hfz:∀ k,w.frozen? ⟨g,k,none⟩=false:=fun k=>h.own.frozenAt k
 refine ⟨fun m hm=>(by obtain ⟨A,c,h1,_⟩:=((h.nods _ (List.getElem_mem hm)).now.1).shape;exact ⟨A,c,h1⟩),fun m hm=>?_,fun m hm=>?_,hfz,fun m hm h0=>?_⟩
 ·obtain ⟨b,off,c1,e1,_,_,hat⟩:=hs.at_ (by omega)
  cases e1
  have:=(hat m hm).c3
  rw [Nat.zero_add] at this
  exact this
 ·obtain ⟨b,off,c1,e1,_,_,hat⟩:=hs.at_ (by omega)
  cases e1
  have:=(hat m hm).c5
  rw [Nat.zero_add] at this
  exact ⟨_,this⟩
 ·have ho:=h.nods _ (List.getElem_mem hm)
  have hn:=ho.now.1
  obtain ⟨b,off,c1,e1,hc,hlt,hat⟩:=Nods.at_ (l:=pl[m].s.e) hn.nods h0
  have hb:¬ ((Value.slice (some ⟨g,0,none⟩) pl.length c).ownBlock=some b∨b < n0):=off_blk (S:=fun k=>(Value.slice (some ⟨g,0,none⟩) pl.length c).ownBlock=some k∨k < n0) (off:=off) (n:=pl[m].s.e.length) (c:=c1) (l:=pl[m].s.e) (ho.imp fun u hu=>by rw [← e1];exact hu.1.nods) h0
  have hx:=(hat 0 h0).n
  rw [Nat.zero_mul,Nat.add_zero] at hx
  refine ⟨b,off,c1,e1,hc,?_,?_,⟨_,hx⟩,?_⟩
  ·rcases Nat.lt_or_ge b n0 with h | h
   ·exact absurd (.inr h) hb
   ·exact h
  ·intro e
   subst e
   exact hb (.inl rfl)
  ·exact (hn.unf _ _ _ e1).2 _
theorem sameSt_refl (b:Bool) (x:St):sameSt b x x=true:=by
 have h:∀ l:List Nod,sameE b l l=true:=fun l=>by
  induction l with
  | nil=>rfl
  | cons y r ih=>unfold sameE;rw [ih];unfold nodS;simp
 unfold sameSt
 rw [h,h]
 simp
theorem sameS_refl (b : Bool) : ∀ l : List St, sameS b l l = true
  | [] => rfl
  | x :: l => by unfold sameS; rw [sameSt_refl, sameS_refl b l]; rfl
theorem parS_B {l:List Tok} (h:∀ t∈l,TokIn 4000 t) (i:Int):(parS l i).1.length≤40∧∀ x∈(parS l i).1,SvB x:=by
 unfold parS
 split
 ·exact ⟨by simp,by simp⟩
 ·split
  ·exact ⟨by simp,by simp⟩
  ·rename_i x t hb
   have hr:=(blk_right h 13 _ _ _ _ hb).1
   split
   ·exact ⟨by simp,by simp⟩
   ·exact ⟨by dsimp only;omega,fun y hy=>fits_B (hr y hy)⟩
theorem parses_c (s:ByteArray) (i:Int) (hz:s.size≤9223372036854775807) (w:World) (hE:Env w) :
 Calls Tryz.prog 3 #[.string s,.int .i64 i] w (Yes w):=by
 have HE:=Lib.hid hE
 clear hE
 go_enter Tryz.func3,Tryz.ntmps3
 go_wp2_with fail
 have ht:=cut_size s 900
 simp only [Int.cast_ofNat_Int] at ht
 generalize s.extract 0 (min (s.size:Int) 900).toNat=t at ht ⊢
 refine (tokens_c t (by omega) _).mono ?_
 rintro e w1 ⟨v,rfl,hv,hb1⟩
 have hdl:=data_len t
 obtain ⟨hl,htx⟩:=scan_use t.data.toList (by omega)
 obtain ⟨hx40,hxB⟩:=parS_B (l:=(scanE t.data.toList).1) (fun t' h'=>((scanE_facts t.data.toList).2 t' h').mono (by omega)) i
 generalize (scanE t.data.toList).1=l at hv hl htx hx40 hxB
 have HL:=Lib.hid (And.intro hl htx)
 have HV:=Lib.hid hv
 have HB1:=Lib.hid hb1
 clear hl htx hb1 hv ht hdl
 go_wp2_with fail
 refine (rSParse_c l HL.out.1 HL.out.2 v i w1 HV.out (HE.out.below HB1.out)).mono ?_
 rintro e w2 ⟨V,rfl,hV,hb2⟩
 have HPO:Hid (∀ u,Below w2.heap.size w2 u→Calls Tryz.prog 12 #[v,.int .i64 i] u (SParseO l i u)):=fun u hu=>SParse_c l HL.out.1 HL.out.2 v i u (SlN.below HV.out (bt hb2 hu)) (HE.out.below (bt HB1.out (bt hb2 hu)))
 unfold SParseO at HPO
 generalize parS l i=R at hV HPO hx40 hxB ⊢
 obtain ⟨F,tt,er,pl⟩:=R
 simp only at hV HPO hx40 hxB
 obtain ⟨r,hr,hsr⟩:=Sts.svs hV
 obtain ⟨A1,c1,rfl,_⟩:=hsr.shape
 have HR:=Lib.hid hr
 have HN1:=Lib.hid hsr
 have HB2:=Lib.hid (bt HB1.out hb2)
 have HXB:=Lib.hid (And.intro hx40 hxB)
 have HSM:Hid (∀ u V2 (q:List Sv),Below w2.heap.size w2 u→q.map (·.s)=F→Svs u V2 q→Calls Tryz.prog 13 #[V2,.slice A1 r.length c1,.bool true] u fun e w'=>e = .returned (.bool true)∧Below u.heap.size u w'):=fun u V2 q hu hq hn=>by
  have hql:q.length≤100000:=by have:=congrArg List.length hq;rw [List.length_map] at this;omega
  have hrl:r.length≤100000:=by have:=congrArg List.length hr;rw [List.length_map] at this;omega
  have:=rsameS_c q r hql hrl (B_len (B_of hq hxB)) (B_len (B_of hr hxB)) V2 _ true u hn (HN1.out.below hu)
  rw [hq,hr,sameS_refl] at this
  exact this
 clear hV hb2 HV hr hsr hx40 hxB
 go_wp2_with fail
 go_loopw [10] (fun k wr=>Below w2.heap.size w2 wr∧∃ j:Nat,j≤2∧k = .int .i64 j) (fun k _=>2 - (intOf k).toNat)
 case atStart=>exact ⟨Below.refl _ _,0,by omega,rfl⟩
 case round =>
  obtain ⟨hbr,j,hj,rfl⟩:=hrel
  have HBR:=Lib.hid hbr
  clear hbr
  by_cases hj2:j < 2
  ·have hj3:(j:Int) < 2:=by omega
   go_upto_region 8 with (go_at_call 12;refine (HPO.out _ HBR.out).mono ?_;rintro e w3 ⟨V2,rfl,⟨q,hq,ho⟩,hb3⟩)
   have hs3:=ho.svs
   obtain ⟨A2,c2,rfl,hc2⟩:=hs3.shape
   have HB3:=Lib.hid (bt HBR.out hb3)
   have HQ:=Lib.hid hq
   have HN3:=Lib.hid hs3
   have hql:q.length≤40:=by have:=congrArg List.length hq;rw [List.length_map] at this;have:=HXB.out.1;omega
   have HO:Hid (SOwP (fun k=>k < w2.heap.size) w2.heap.size w3 (.slice A2 q.length c2) q):=by
    have hsz:w2.heap.size≤wr.heap.size:=HBR.out.size
    exact ⟨own_base ho.own hsz,fun x hx=>(ho.nods x hx).mono (fun k _ e=>e.elim .inl (fun e=>.inr (Nat.lt_of_lt_of_le e hsz)))⟩
   clear hs3 hb3 ho hq
   go_upto_region 10 with (go_at_call 13;refine (HSM.out _ _ q HB3.out HQ.out HN3.out).mono ?_;rintro e w4 ⟨rfl,hb4⟩)
   have HB4:=Lib.hid (bt HB3.out hb4)
   have HO4:=Lib.hid (HO.out.below hb4)
   clear hb4 HN3 HO
   by_cases hq0:q.length=0
   ·have hq00:¬ ((0:Int) < (q.length:Int)):=by omega
    have HQ0:=Lib.hid hq0
    clear hq0
    go_wp2_with fail
    go_loopw [15] (fun k wr=>wr=w4∧k = .int .i64 0) (fun k _=>0)
    case atStart=>exact ⟨rfl,rfl⟩
    case round =>
     obtain ⟨rfl,rfl⟩:=hrel
     go_wp2_with fail
     go_roundw
     case rel=>exact ⟨HB4.out,j+1,by omega,by go_num⟩
     case measure=>simp [intOf];omega
   ·obtain ⟨g,rfl,hge⟩:∃ g,A2=some ⟨g,0,none⟩∧w2.heap.size≤g:=by
     rcases HO4.out.own.2 with ⟨h1,h2⟩ | ⟨g,cap,cur,h1,h2,_⟩
     ·exfalso
      injection h1 with h1 h3
      omega
     ·injection h1 with h1
      exact ⟨g,h1,h2⟩
    have HW4:=Lib.hid (wr_of HO4.out)
    have HGE:=Lib.hid hge
    clear hq0 HO4 hge
    go_wp2_with fail
    go_loopw [15] (fun k wr=>Below w2.heap.size w2 wr∧Wr wr w2.heap.size g q∧∃ m:Nat,m≤q.length∧k = .int .i64 m) (fun k _=>q.length - (intOf k).toNat)
    case atStart=>exact ⟨HB4.out,HW4.out,0,Nat.zero_le _,rfl⟩
    case round =>
     obtain ⟨hbs,hwr,m,hm,rfl⟩:=hrel
     have HBS:=Lib.hid hbs
     have HWR:=Lib.hid hwr
     clear hbs hwr
     by_cases hml:m < q.length
     ·have hml2:(m:Int) < (q.length:Int):=by omega
      have hm0:(0:Int)≤(m:Int):=Int.natCast_nonneg _
      have h3:=HWR.out.ev m hml
      obtain ⟨u5,h5⟩:=HWR.out.n m hml
      have z5:=HWR.out.fz (m*9+5)
      by_cases he:0 < q[m].s.e.length
      ·obtain ⟨b,off,c,e1,hcc,hBb,hbg,⟨u1,h1⟩,z1⟩:=HWR.out.nod m hml he
       rw [e1] at h3
       generalize q[m].s.e.length=ne at h3 he hcc
       have he2:(0:Int) < (ne:Int):=by omega
       have hgb:g≠b:=fun e=>hbg e.symm
       go_wp2_with fail
       go_roundw
       case rel=>exact ⟨below_set (below_set HBS.out hBb _) HGE.out _,(HWR.out.set (b:=b) (o:=off+1) _ (.inl hbg)).set (b:=g) (o:=m*9+5) _ (.inr (by omega)),m+1,by omega,by go_num⟩
       case measure=>simp [intOf];omega
      ·obtain ⟨Ae,ce,e1⟩:∃ Ae ce,q[m].ev = .slice Ae 0 ce:=by
        obtain ⟨A,c,h⟩:=HWR.out.shp m hml
        exact ⟨A,c,by rw [h,show q[m].s.e.length=0 by omega]⟩
       rw [e1] at h3
       go_wp2_with fail
       go_roundw
       case rel=>exact ⟨below_set HBS.out HGE.out _,HWR.out.set (b:=g) (o:=m*9+5) _ (.inr (by omega)),m+1,by omega,by go_num⟩
       case measure=>simp [intOf];omega
     ·have hml2:¬ ((m:Int) < (q.length:Int)):=by omega
      go_wp2_with fail
      go_roundw
      case rel=>exact ⟨HBS.out,j+1,by omega,by go_num⟩
      case measure=>simp [intOf];omega
  ·have hj3:¬ ((j:Int) < 2):=by omega
   go_wp2_with (go_at_call 14;refine (fixed_c _ (HE.out.below (bt HB2.out HBR.out))).mono ?_;rintro e w5 ⟨rfl,hb5⟩)
   go_ret
   exact ⟨rfl,bt (bt HB2.out HBR.out) hb5⟩
end Go.Proofs.YtaoeaaebafcegaaGreatDoor

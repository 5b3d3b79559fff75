/- Chapter 04 (statements), joined: StrQ, StrR. -/
import Derived.Test.YtaoeaaebafcegaaGreatDoorPkA33
import Derived.Test.YtaoeaaebafcegaaGreatDoorPkA36
import Derived.Test.YtaoeaaebafcegaaGreatDoorPkA37
set_option maxRecDepth 100000
set_option maxHeartbeats 16000000
namespace Go.Proofs.YtaoeaaebafcegaaGreatDoor
open Go Go.RowKit
set_option linter.unusedVariables false
theorem OK_below {b:Nat} {w w':World} (h:Below w.heap.size w w'):OK_ b w w':=fun k o hk _ _=>(h.block k (Array.getElem?_eq_some_iff.1 hk).1).trans hk
def ShowC (N:Nat):Prop:=∀ (pl:List Sv) (v:Value) (w0 w:World) (rt acc:List UInt8) (d b:Nat),pl.length≤N→Rd true (pl.map (·.s)) d→(∀ x∈pl,Fits x.s)→rt.length+2*pl.length≤200→Svs w0 v pl→Env w0→acc.length+(lnS rt (pl.map (·.s))).length≤10000000→Below w0.heap.size w0 w→Bld w0.heap.size b acc w →
 Calls Tryz.prog 35 #[.pointer (some ⟨b,0,none⟩),v,.string (str rt)] w fun e w'=>e = .returned (.tuple #[])∧Bld w0.heap.size b (acc++lnS rt (pl.map (·.s))) w'∧Below w0.heap.size w w'∧OK_ b w w'
theorem show_step (N:Nat) (IH:∀ M,M < N→ShowC M):ShowC N:=by
 intro pl v w0 w rt acc d b hN hrd hfit hrt hv hE hacc hbw hbld
 have HIH:Hid (∀ (q:List Sv) (u:Value) (x:World) (r a:List UInt8) (d:Nat),q.length < pl.length→Rd true (q.map (·.s)) d→(∀ x∈q,Fits x.s)→r.length+2*q.length≤200→Svs w0 u q→a.length+(lnS r (q.map (·.s))).length≤10000000→Below w0.heap.size w0 x→Bld w0.heap.size b a x→Calls Tryz.prog 35 #[.pointer (some ⟨b,0,none⟩),u,.string (str r)] x fun e w'=>e = .returned (.tuple #[])∧Bld w0.heap.size b (a++lnS r (q.map (·.s))) w'∧Below w0.heap.size x w'∧OK_ b x w'):=fun q u x r a d h1 h2 h3 h4 h5 h6 h7 h8=>IH q.length (by omega) q u w0 x r a d b (Nat.le_refl _) h2 h3 h4 h5 hE h6 h7 h8
 clear IH
 obtain ⟨A0,c0,rfl,hc0⟩:=hv.shape
 have HV:=Lib.hid hv
 have HFIT:=Lib.hid hfit
 have HE:=Lib.hid hE
 have HBW:=Lib.hid hbw
 have HBLD:=Lib.hid hbld
 have h100:pl.length≤100:=by omega
 have hr200:rt.length≤200:=by omega
 obtain ⟨T,HT⟩:∃ T,Hid (acc++lnS rt (pl.map (·.s))=T):=⟨_,rfl⟩
 have HTL:Hid (T.length≤10000000):=by
  show _≤_
  rw [← HT.out,List.length_append]
  omega
 rw [HT.out]
 have HRD0:=Lib.hid hrd
 obtain ⟨SRT,HSRT⟩:∃ s,Hid (str rt=s):=⟨_,rfl⟩
 have zRT:SRT.size≤200:=by rw [← HSRT.out,str_size];exact hr200
 rw [HSRT.out]
 have HRT:=Lib.hid hrt
 clear hv hfit hrd hrt hE hbw hbld hacc
 go_enter Tryz.func35,Tryz.ntmps35
 go_wp2_with fail
 go_loopw [6] (fun i wr=>∃ (j:Nat) (cur:List UInt8),j≤pl.length∧i = .int .i64 j∧Hid (∃ d,Rd true ((pl.map (·.s)).drop j) d)∧Hid (cur++lnS rt ((pl.map (·.s)).drop j)=T)∧Bld w0.heap.size b cur wr∧Below w0.heap.size w wr∧OK_ b w wr) (fun i _=>pl.length - (intOf i).toNat)
 case atStart=>exact ⟨0,acc,Nat.zero_le _,rfl,⟨_,HRD0.out⟩,by show _=_;rw [List.drop_zero,HT.out],HBLD.out,Below.refl _ _,Lib.OthersKept.refl _ _ _⟩
 case round =>
  obtain ⟨j,cur,hj,rfl,HRD,HCU,hbl,hb,hok⟩:=hrel
  have HBL:=Lib.hid hbl
  have HB:=Lib.hid hb
  have HOK:=Lib.hid hok
  have HB0:Hid (Below w0.heap.size w0 wr):=HBW.out.trans hb
  have HSZ:Hid (w0.heap.size≤wr.heap.size):=HB0.out.size
  have HLT:Hid (b < wr.heap.size):=hbl.lt
  have hcl:cur.length+(lnS rt ((pl.map (·.s)).drop j)).length≤10000000:=by
   have:=congrArg List.length HCU.out
   rw [List.length_append] at this
   have:=HTL.out
   omega
  clear hbl hb hok
  by_cases hjl:j < pl.length
  ·obtain ⟨b1,off,c,hE0,hcc,hbt,hat⟩:=HV.out.at_ (by omega)
   cases hE0
   have hx:=(hat j hjl).below HB0.out hbt
   have hlm:j < (pl.map (·.s)).length:=by simpa using hjl
   have HNX:=Lib.hid (HV.out.2 _ (List.getElem_mem hjl))
   have HFX:=Lib.hid (HFIT.out _ (List.getElem_mem hjl))
   have hsv:=sv_map hjl
   have hjl2:(j:Int) < (pl.length:Int):=by omega
   have hdr:(pl.map (·.s)).drop j=(pl[j]).s :: (pl.map (·.s)).drop (j+1):=by rw [← hsv];exact List.drop_eq_getElem_cons hlm
   obtain ⟨dd,hrd⟩:=HRD.out
   rw [hdr] at hrd hcl
   have hst:=rd_step hrd rt
   have hcu:=HCU.out
   rw [hdr] at hcu
   have HLI:Hid (∀ u,Below w0.heap.size w0 u→Calls Tryz.prog 66 #[stV (pl[j]).s (pl[j]).ev (pl[j]).fv] u fun e w'=>e = .returned (.string (str (lineS (pl[j]).s)))∧Below u.heap.size u w'):=fun u hu=>pline_c _ HFX.out _ _ u (SlN.below HNX.out.1 hu) (SlN.below HNX.out.2 hu) (HE.out.below hu)
   have zL:(str (lineS (pl[j]).s)).size≤4000:=by rw [str_size];exact lineS_len HFX.out
   clear hat hsv hdr hrd HCU HRD hlm
   generalize hxe:pl[j] = x at hx HNX HFX hst hcu HLI zL hcl
   clear hxe HFX
   obtain ⟨⟨kind,reg,name,xe,xf,n,body,els,pos⟩,ev,fv⟩:=x
   obtain ⟨hx0,hx1,hx2,hx3,hx4,hx5,hx6,hx7,hx8⟩:=hx
   have hnx:=HNX.out
   unfold stV at HLI
   dsimp only at hnx hx0 hx1 hx2 hx3 hx4 hx5 hx6 hx7 hx8 HLI hst hcu zL hcl
   obtain ⟨A5,c5,rfl,_⟩:=Nods.shape hnx.1
   obtain ⟨A6,c6,rfl,_⟩:=Nods.shape hnx.2
   clear hnx HNX
   have w1:=wrap_in ((j:Int)+1) (by omega) (by omega)
   have HWS:Hid (∀ (a t:List UInt8) (u:World),Bld w0.heap.size b a u→a.length≤10000000→t.length≤10000000→w0.heap.size≤u.heap.size→Calls Tryz.prog 65 #[.pointer (some ⟨b,0,none⟩),.string (str t)] u fun e w'=>e = .returned (.tuple #[.int .i64 t.length,.nilIface])∧Bld w0.heap.size b (a++t) w'∧Below w0.heap.size u w'∧OK_ b u w'):=fun a t u h1 h2 h3 h4=>wstr_c _ _ a t u h1 (by omega) h4
   rcases hst with ⟨h11,h12,hb0,he0,hrd2,hln⟩ | ⟨hkb,nb,ne,hb0,he0,hbe,hrd1,hrd2,hrd3,hln⟩
   ·subst hb0 he0
    have k11:(kind != 11)=true:=by rw [bne_iff_ne];exact h11
    have k12:(kind != 12)=true:=by rw [bne_iff_ne];exact h12
    rw [hln] at hcl
    simp only [List.length_append,tEnd,List.length_cons,List.length_nil] at hcl
    have HCN:Hid ((cur++(rt++lineS ⟨kind,reg,name,xe,xf,n,0,0,pos⟩)++[59,10])++lnS rt ((pl.map (·.s)).drop (j+1))=T):=by
     show _=_
     rw [← hcu,hln]
     simp only [List.append_assoc,tEnd]
    have HRD2:=Lib.hid hrd2
    clear hcu hln h11 h12 hrd2
    generalize lineS ⟨kind,reg,name,xe,xf,n,0,0,pos⟩=L at HLI zL HCN hcl
    have zL2:L.length≤4000:=by rw [str_size] at zL;exact zL
    have zR2:rt.length≤200:=hr200
    generalize hSL:str L=SL at HLI zL
    have f1:¬ (9223372036854775807 < SRT.size+SL.size):=by omega
    have HBLK:Hid ((wr.alloc (.cells #[.int .i64 kind,.string (str reg),.string (str name),.slice A5 xe.length c5,.slice A6 xf.length c6,.int .i64 n,.int .i64 0,.int .i64 0,.int .i64 pos] 31)).heap[wr.heap.size]? = some (.cells #[.int .i64 kind,.string (str reg),.string (str name),.slice A5 xe.length c5,.slice A6 xf.length c6,.int .i64 n,.int .i64 0,.int .i64 0,.int .i64 pos] 31 (0,0))):=heap_alloc_new _ _
    have HWA:Hid (Below w0.heap.size w (wr.alloc (.cells #[.int .i64 kind,.string (str reg),.string (str name),.slice A5 xe.length c5,.slice A6 xf.length c6,.int .i64 n,.int .i64 0,.int .i64 0,.int .i64 pos] 31))):=HB.out.trans ((al wr _).mono HSZ.out)
    have HBA:Hid (Below w0.heap.size w0 (wr.alloc (.cells #[.int .i64 kind,.string (str reg),.string (str name),.slice A5 xe.length c5,.slice A6 xf.length c6,.int .i64 n,.int .i64 0,.int .i64 0,.int .i64 pos] 31))):=HB0.out.trans ((al wr _).mono HSZ.out)
    have HOA:Hid (OK_ b w (wr.alloc (.cells #[.int .i64 kind,.string (str reg),.string (str name),.slice A5 xe.length c5,.slice A6 xf.length c6,.int .i64 n,.int .i64 0,.int .i64 0,.int .i64 pos] 31))):=HOK.out.trans (OK_below (al wr _))
    have HLA:Hid (Bld w0.heap.size b cur (wr.alloc (.cells #[.int .i64 kind,.string (str reg),.string (str name),.slice A5 xe.length c5,.slice A6 xf.length c6,.int .i64 n,.int .i64 0,.int .i64 0,.int .i64 pos] 31))):=HBL.out.alloc _
    have HGB:Hid (wr.heap.size≠b):=by have:=HLT.out;show _≠_;omega
    go_upto_region 5 with fail
    generalize World.alloc wr _=Y at HBLK HBA HWA HOA HLA ⊢
    generalize wr.heap.size=g at HBLK HGB ⊢
    clear hx0 hx1 hx2 hx3 hx4 hx5 hx6 hx7 hx8
    have p0:=cell_blk HBLK.out 0
    have p1:=cell_blk HBLK.out 1
    have p2:=cell_blk HBLK.out 2
    have p3:=cell_blk HBLK.out 3
    have p4:=cell_blk HBLK.out 4
    have p5:=cell_blk HBLK.out 5
    have p6:=cell_blk HBLK.out 6
    have p7:=cell_blk HBLK.out 7
    have p8:=cell_blk HBLK.out 8
    go_wp2_with (go_at_call 66;(with_reducible refine (HLI.out _ HBA.out).mono ?_);rintro e w3 ⟨rfl,hb3⟩)
    clear p0 p1 p2 p3 p4 p5 p6 p7 p8
    have HL3:Hid (Bld w0.heap.size b cur w3):=HLA.out.belowN hb3
    have HB3:Hid (Below w0.heap.size w0 w3):=HBA.out.trans (hb3.mono HBA.out.size)
    have HW3:Hid (Below w0.heap.size w w3):=HWA.out.trans (hb3.mono HBA.out.size)
    have HO3:Hid (OK_ b w w3):=HOA.out.trans (OK_below hb3)
    have HK3:Hid (w3.heap[g]? = some (.cells #[.int .i64 kind,.string (str reg),.string (str name),.slice A5 xe.length c5,.slice A6 xf.length c6,.int .i64 n,.int .i64 0,.int .i64 0,.int .i64 pos] 31 (0,0))):=(hb3.block g (Array.getElem?_eq_some_iff.1 HBLK.out).1).trans HBLK.out
    have HC4:=Lib.hid (HWS.out cur (rt++L) w3 HL3.out (by omega) (by rw [List.length_append];omega) HB3.out.size)
    rw [str_app,HSRT.out,hSL] at HC4
    clear HBLK HBA HWA HOA HLA hb3
    go_at_call 65
    (with_reducible refine (HC4.out).mono ?_)
    rintro e w4 ⟨rfl,hl4,hb4,hk4⟩
    have HL4:=Lib.hid hl4
    have HB4:Hid (Below w0.heap.size w0 w4):=HB3.out.trans hb4
    have HW4:Hid (Below w0.heap.size w w4):=HW3.out.trans hb4
    have HO4:Hid (OK_ b w w4):=HO3.out.trans hk4
    have HK4:Hid (w4.heap[g]? = some (.cells #[.int .i64 kind,.string (str reg),.string (str name),.slice A5 xe.length c5,.slice A6 xf.length c6,.int .i64 n,.int .i64 0,.int .i64 0,.int .i64 pos] 31 (0,0))):=kept_block hk4 HK3.out HGB.out (by decide)
    have q0:=cell_blk HK4.out 0
    have q7:=cell_blk HK4.out 7
    clear hl4 hb4 hk4 HL3 HB3 HO3 HK3 HC4
    go_wp2_with fail
    have HC5:=Lib.hid (HWS.out _ ([59,10]) w4 HL4.out (by simp only [List.length_append];omega) (by simp only [List.length_cons, List.length_nil];omega) HB4.out.size)
    rw [show str [59,10] = (⟨#[59,10]⟩:ByteArray) from rfl] at HC5
    go_at_call 65
    (with_reducible refine (HC5.out).mono ?_)
    rintro e w5 ⟨rfl,hl5,hb5,hk5⟩
    have HL5:=Lib.hid hl5
    have HB5:Hid (Below w0.heap.size w0 w5):=HB4.out.trans hb5
    have HW5:Hid (Below w0.heap.size w w5):=HW4.out.trans hb5
    have HO5:Hid (OK_ b w w5):=HO4.out.trans hk5
    have HK5:Hid (w5.heap[g]? = some (.cells #[.int .i64 kind,.string (str reg),.string (str name),.slice A5 xe.length c5,.slice A6 xf.length c6,.int .i64 n,.int .i64 0,.int .i64 0,.int .i64 pos] 31 (0,0))):=kept_block hk5 HK4.out HGB.out (by decide)
    clear hl5 hb5 hk5 HC5
    go_wp2_with fail
    go_roundw
    case rel=>exact ⟨j+1,_,by omega,by go_num,HRD2.out,HCN.out,HL5.out,HW5.out,HO5.out⟩
    case measure=>simp [intOf];omega
   ·subst hb0 he0
    rw [List.length_drop,List.length_map] at hbe
    have hkk:(kind != 11)=false∨((kind != 11)=true∧(kind != 12)=false):=by rcases hkb with rfl | rfl <;> simp
    clear hkb
    rcases hkk with k11 | ⟨k11,k12⟩
    all_goals
     rcases Nat.lt_or_ge 0 ne with hn0 | hn0
     ·have hne:(0:Int) < (ne:Int):=by omega
      have HRD2:=Lib.hid hrd3
      obtain ⟨da,hda⟩:=hrd1
      obtain ⟨P1,d1,hs1,hv1⟩:=HV.out.cut (j+1) nb (by omega) ((j:Int)+1) ((j:Int)+1+(nb:Int)) (by omega) (by omega)
      have l1:((pl.drop (j+1)).take nb).length≤nb:=by rw [List.length_take];omega
      have m1:=part_map pl (j+1) nb
      have hrt:=HRT.out
      have HI1:Hid (∀ (a:List UInt8) (u:World),a.length+(lnS (rt++[32,32]) (((pl.map (·.s)).drop (j+1)).take nb)).length≤10000000→Below w0.heap.size w0 u→Bld w0.heap.size b a u→Calls Tryz.prog 35 #[.pointer (some ⟨b,0,none⟩),.slice P1 nb d1,.string (SRT++⟨#[32,32]⟩)] u fun e w'=>e = .returned (.tuple #[])∧Bld w0.heap.size b (a++lnS (rt++[32,32]) (((pl.map (·.s)).drop (j+1)).take nb)) w'∧Below w0.heap.size u w'∧OK_ b u w'):=fun a u ha hu hl=>by
       have:=HIH.out ((pl.drop (j+1)).take nb) (.slice P1 nb d1) u (rt++[32,32]) a da (by omega) (by rw [m1];exact hda) (fits_sub HFIT.out mem_part) (by rw [List.length_append];simp only [List.length_cons,List.length_nil];omega) hv1 (by rw [m1];exact ha) hu hl
       rw [m1,str_app,HSRT.out] at this
       exact this
      obtain ⟨db,hdb⟩:=hrd2
      obtain ⟨P2,d2,hs2,hv2⟩:=HV.out.cut (j+1+nb) ne (by omega) ((j:Int)+1+(nb:Int)) ((j:Int)+1+(nb:Int)+(ne:Int)) (by omega) (by omega)
      have l2:((pl.drop (j+1+nb)).take ne).length≤ne:=by rw [List.length_take];omega
      have m2:=part_map pl (j+1+nb) ne
      rw [List.drop_drop] at hdb
      have HI2:Hid (∀ (a:List UInt8) (u:World),a.length+(lnS (rt++[32,32]) (((pl.map (·.s)).drop (j+1+nb)).take ne)).length≤10000000→Below w0.heap.size w0 u→Bld w0.heap.size b a u→Calls Tryz.prog 35 #[.pointer (some ⟨b,0,none⟩),.slice P2 ne d2,.string (SRT++⟨#[32,32]⟩)] u fun e w'=>e = .returned (.tuple #[])∧Bld w0.heap.size b (a++lnS (rt++[32,32]) (((pl.map (·.s)).drop (j+1+nb)).take ne)) w'∧Below w0.heap.size u w'∧OK_ b u w'):=fun a u ha hu hl=>by
       have:=HIH.out ((pl.drop (j+1+nb)).take ne) (.slice P2 ne d2) u (rt++[32,32]) a db (by omega) (by rw [m2];exact hdb) (fits_sub HFIT.out mem_part) (by rw [List.length_append];simp only [List.length_cons,List.length_nil];omega) hv2 (by rw [m2];exact ha) hu hl
       rw [m2,str_app,HSRT.out] at this
       exact this
      rw [List.drop_drop,List.drop_drop,← Nat.add_assoc,if_pos (by omega)] at hln
      rw [hln] at hcl
      simp only [List.length_append,tOpen,tShut,tElse,List.length_cons,List.length_nil] at hcl
      have HCN:Hid ((cur++(rt++lineS ⟨kind,reg,name,xe,xf,n,nb,ne,pos⟩)++[32,123,10]++lnS (rt++[32,32]) (((pl.map (·.s)).drop (j+1)).take nb)++(rt++[125,32,101,108,115,101,32,123,10])++lnS (rt++[32,32]) (((pl.map (·.s)).drop (j+1+nb)).take ne)++(rt++[125,10]))++lnS rt ((pl.map (·.s)).drop (j+1+nb+ne))=T):=by
       show _=_
       rw [← hcu,hln]
       simp only [List.append_assoc, tOpen, tShut, tElse]
      have HRD3:Hid (∃ d,Rd true ((pl.map (·.s)).drop (j+1+nb+ne)) d):=by
       have:=HRD2.out
       rw [List.drop_drop,← Nat.add_assoc] at this
       exact this
      clear hcu hln hda HRD2 l1 m1 hv1 hrd3 hrt hdb l2 m2 hv2
      generalize lineS ⟨kind,reg,name,xe,xf,n,nb,ne,pos⟩=L at HLI zL HCN hcl
      generalize lnS (rt++[32,32]) (((pl.map (·.s)).drop (j+1)).take nb)=L1 at HI1 HCN hcl
      generalize lnS (rt++[32,32]) (((pl.map (·.s)).drop (j+1+nb)).take ne)=L2 at HI2 HCN hcl
      have zL2:L.length≤4000:=by rw [str_size] at zL;exact zL
      have zR2:rt.length≤200:=hr200
      generalize hSL:str L=SL at HLI zL
      have f1:¬ (9223372036854775807 < SRT.size+SL.size):=by omega
      have f2:¬ (9223372036854775807 < SRT.size+2):=by omega
      have f2':¬ (9223372036854775805 < SRT.size):=by omega
      have f3:¬ (9223372036854775807 < SRT.size+9):=by omega
      have f3':¬ (9223372036854775798 < SRT.size):=by omega
      have v2:=wrap_in ((j:Int)+1+(nb:Int)) (by omega) (by omega)
      have v3:=wrap_in ((j:Int)+1+(nb:Int)+(ne:Int)) (by omega) (by omega)
      have j0:(0:Int)≤(j:Int)+1:=by omega
      have HBLK:Hid ((wr.alloc (.cells #[.int .i64 kind,.string (str reg),.string (str name),.slice A5 xe.length c5,.slice A6 xf.length c6,.int .i64 n,.int .i64 (nb:Int),.int .i64 (ne:Int),.int .i64 pos] 31)).heap[wr.heap.size]? = some (.cells #[.int .i64 kind,.string (str reg),.string (str name),.slice A5 xe.length c5,.slice A6 xf.length c6,.int .i64 n,.int .i64 (nb:Int),.int .i64 (ne:Int),.int .i64 pos] 31 (0,0))):=heap_alloc_new _ _
      have HWA:Hid (Below w0.heap.size w (wr.alloc (.cells #[.int .i64 kind,.string (str reg),.string (str name),.slice A5 xe.length c5,.slice A6 xf.length c6,.int .i64 n,.int .i64 (nb:Int),.int .i64 (ne:Int),.int .i64 pos] 31))):=HB.out.trans ((al wr _).mono HSZ.out)
      have HBA:Hid (Below w0.heap.size w0 (wr.alloc (.cells #[.int .i64 kind,.string (str reg),.string (str name),.slice A5 xe.length c5,.slice A6 xf.length c6,.int .i64 n,.int .i64 (nb:Int),.int .i64 (ne:Int),.int .i64 pos] 31))):=HB0.out.trans ((al wr _).mono HSZ.out)
      have HOA:Hid (OK_ b w (wr.alloc (.cells #[.int .i64 kind,.string (str reg),.string (str name),.slice A5 xe.length c5,.slice A6 xf.length c6,.int .i64 n,.int .i64 (nb:Int),.int .i64 (ne:Int),.int .i64 pos] 31))):=HOK.out.trans (OK_below (al wr _))
      have HLA:Hid (Bld w0.heap.size b cur (wr.alloc (.cells #[.int .i64 kind,.string (str reg),.string (str name),.slice A5 xe.length c5,.slice A6 xf.length c6,.int .i64 n,.int .i64 (nb:Int),.int .i64 (ne:Int),.int .i64 pos] 31))):=HBL.out.alloc _
      have HGB:Hid (wr.heap.size≠b):=by have:=HLT.out;show _≠_;omega
      go_upto_region 5 with fail
      generalize World.alloc wr _=Y at HBLK HBA HWA HOA HLA ⊢
      generalize wr.heap.size=g at HBLK HGB ⊢
      clear hx0 hx1 hx2 hx3 hx4 hx5 hx6 hx7 hx8
      have p0:=cell_blk HBLK.out 0
      have p1:=cell_blk HBLK.out 1
      have p2:=cell_blk HBLK.out 2
      have p3:=cell_blk HBLK.out 3
      have p4:=cell_blk HBLK.out 4
      have p5:=cell_blk HBLK.out 5
      have p6:=cell_blk HBLK.out 6
      have p7:=cell_blk HBLK.out 7
      have p8:=cell_blk HBLK.out 8
      go_wp2_with (go_at_call 66;(with_reducible refine (HLI.out _ HBA.out).mono ?_);rintro e w3 ⟨rfl,hb3⟩)
      clear p0 p1 p2 p3 p4 p5 p6 p7 p8
      have HL3:Hid (Bld w0.heap.size b cur w3):=HLA.out.belowN hb3
      have HB3:Hid (Below w0.heap.size w0 w3):=HBA.out.trans (hb3.mono HBA.out.size)
      have HW3:Hid (Below w0.heap.size w w3):=HWA.out.trans (hb3.mono HBA.out.size)
      have HO3:Hid (OK_ b w w3):=HOA.out.trans (OK_below hb3)
      have HK3:Hid (w3.heap[g]? = some (.cells #[.int .i64 kind,.string (str reg),.string (str name),.slice A5 xe.length c5,.slice A6 xf.length c6,.int .i64 n,.int .i64 (nb:Int),.int .i64 (ne:Int),.int .i64 pos] 31 (0,0))):=(hb3.block g (Array.getElem?_eq_some_iff.1 HBLK.out).1).trans HBLK.out
      have HC4:=Lib.hid (HWS.out cur (rt++L) w3 HL3.out (by omega) (by rw [List.length_append];omega) HB3.out.size)
      rw [str_app,HSRT.out,hSL] at HC4
      clear HBLK HBA HWA HOA HLA hb3
      go_at_call 65
      (with_reducible refine (HC4.out).mono ?_)
      rintro e w4 ⟨rfl,hl4,hb4,hk4⟩
      have HL4:=Lib.hid hl4
      have HB4:Hid (Below w0.heap.size w0 w4):=HB3.out.trans hb4
      have HW4:Hid (Below w0.heap.size w w4):=HW3.out.trans hb4
      have HO4:Hid (OK_ b w w4):=HO3.out.trans hk4
      have HK4:Hid (w4.heap[g]? = some (.cells #[.int .i64 kind,.string (str reg),.string (str name),.slice A5 xe.length c5,.slice A6 xf.length c6,.int .i64 n,.int .i64 (nb:Int),.int .i64 (ne:Int),.int .i64 pos] 31 (0,0))):=kept_block hk4 HK3.out HGB.out (by decide)
      have q0:=cell_blk HK4.out 0
      have q7:=cell_blk HK4.out 7
      clear hl4 hb4 hk4 HL3 HB3 HO3 HK3 HC4
      go_wp2_with fail
      have HC5:=Lib.hid (HWS.out _ ([32,123,10]) w4 HL4.out (by simp only [List.length_append];omega) (by simp only [List.length_cons, List.length_nil];omega) HB4.out.size)
      rw [show str [32,123,10] = (⟨#[32,123,10]⟩:ByteArray) from rfl] at HC5
      go_at_call 65
      (with_reducible refine (HC5.out).mono ?_)
      rintro e w5 ⟨rfl,hl5,hb5,hk5⟩
      have HL5:=Lib.hid hl5
      have HB5:Hid (Below w0.heap.size w0 w5):=HB4.out.trans hb5
      have HW5:Hid (Below w0.heap.size w w5):=HW4.out.trans hb5
      have HO5:Hid (OK_ b w w5):=HO4.out.trans hk5
      have HK5:Hid (w5.heap[g]? = some (.cells #[.int .i64 kind,.string (str reg),.string (str name),.slice A5 xe.length c5,.slice A6 xf.length c6,.int .i64 n,.int .i64 (nb:Int),.int .i64 (ne:Int),.int .i64 pos] 31 (0,0))):=kept_block hk5 HK4.out HGB.out (by decide)
      clear hl5 hb5 hk5 HC5 q0 q7
      have q7:=cell_blk HK5.out 7
      go_wp2_with fail
      have HC6:=Lib.hid (HI1.out _ w5 (by simp only [List.length_append,List.length_cons,List.length_nil];omega) HB5.out HL5.out)
      go_at_call 35
      (with_reducible refine (HC6.out).mono ?_)
      rintro e w6 ⟨rfl,hl6,hb6,hk6⟩
      have HL6:=Lib.hid hl6
      have HB6:Hid (Below w0.heap.size w0 w6):=HB5.out.trans hb6
      have HW6:Hid (Below w0.heap.size w w6):=HW5.out.trans hb6
      have HO6:Hid (OK_ b w w6):=HO5.out.trans hk6
      have HK6:Hid (w6.heap[g]? = some (.cells #[.int .i64 kind,.string (str reg),.string (str name),.slice A5 xe.length c5,.slice A6 xf.length c6,.int .i64 n,.int .i64 (nb:Int),.int .i64 (ne:Int),.int .i64 pos] 31 (0,0))):=kept_block hk6 HK5.out HGB.out (by decide)
      clear hl6 hb6 hk6 HC6 q7
      have q7:=cell_blk HK6.out 7
      go_wp2_with fail
      have HC7:=Lib.hid (HWS.out _ (rt++[125,32,101,108,115,101,32,123,10]) w6 HL6.out (by simp only [List.length_append, List.length_cons, List.length_nil];omega) (by simp only [List.length_append,List.length_cons,List.length_nil];omega) HB6.out.size)
      rw [str_app,HSRT.out,show str [125,32,101,108,115,101,32,123,10] = (⟨#[125,32,101,108,115,101,32,123,10]⟩:ByteArray) from rfl] at HC7
      go_at_call 65
      (with_reducible refine (HC7.out).mono ?_)
      rintro e w7 ⟨rfl,hl7,hb7,hk7⟩
      have HL7:=Lib.hid hl7
      have HB7:Hid (Below w0.heap.size w0 w7):=HB6.out.trans hb7
      have HW7:Hid (Below w0.heap.size w w7):=HW6.out.trans hb7
      have HO7:Hid (OK_ b w w7):=HO6.out.trans hk7
      have HK7:Hid (w7.heap[g]? = some (.cells #[.int .i64 kind,.string (str reg),.string (str name),.slice A5 xe.length c5,.slice A6 xf.length c6,.int .i64 n,.int .i64 (nb:Int),.int .i64 (ne:Int),.int .i64 pos] 31 (0,0))):=kept_block hk7 HK6.out HGB.out (by decide)
      clear hl7 hb7 hk7 HC7 q7
      have q7:=cell_blk HK7.out 7
      go_wp2_with fail
      have HC8:=Lib.hid (HI2.out _ w7 (by simp only [List.length_append,List.length_cons,List.length_nil];omega) HB7.out HL7.out)
      go_at_call 35
      (with_reducible refine (HC8.out).mono ?_)
      rintro e w8 ⟨rfl,hl8,hb8,hk8⟩
      have HL8:=Lib.hid hl8
      have HB8:Hid (Below w0.heap.size w0 w8):=HB7.out.trans hb8
      have HW8:Hid (Below w0.heap.size w w8):=HW7.out.trans hb8
      have HO8:Hid (OK_ b w w8):=HO7.out.trans hk8
      have HK8:Hid (w8.heap[g]? = some (.cells #[.int .i64 kind,.string (str reg),.string (str name),.slice A5 xe.length c5,.slice A6 xf.length c6,.int .i64 n,.int .i64 (nb:Int),.int .i64 (ne:Int),.int .i64 pos] 31 (0,0))):=kept_block hk8 HK7.out HGB.out (by decide)
      clear hl8 hb8 hk8 HC8 q7
      have q7:=cell_blk HK8.out 7
      go_wp2_with fail
      have HC9:=Lib.hid (HWS.out _ (rt++[125,10]) w8 HL8.out (by simp only [List.length_append, List.length_cons, List.length_nil];omega) (by simp only [List.length_append,List.length_cons,List.length_nil];omega) HB8.out.size)
      rw [str_app,HSRT.out,show str [125,10] = (⟨#[125,10]⟩:ByteArray) from rfl] at HC9
      go_at_call 65
      (with_reducible refine (HC9.out).mono ?_)
      rintro e w9 ⟨rfl,hl9,hb9,hk9⟩
      have HL9:=Lib.hid hl9
      have HB9:Hid (Below w0.heap.size w0 w9):=HB8.out.trans hb9
      have HW9:Hid (Below w0.heap.size w w9):=HW8.out.trans hb9
      have HO9:Hid (OK_ b w w9):=HO8.out.trans hk9
      have HK9:Hid (w9.heap[g]? = some (.cells #[.int .i64 kind,.string (str reg),.string (str name),.slice A5 xe.length c5,.slice A6 xf.length c6,.int .i64 n,.int .i64 (nb:Int),.int .i64 (ne:Int),.int .i64 pos] 31 (0,0))):=kept_block hk9 HK8.out HGB.out (by decide)
      clear hl9 hb9 hk9 HC9 q7
      have q7:=cell_blk HK9.out 7
      go_wp2_with fail
      go_roundw
      case rel=>exact ⟨j+1+nb+ne,_,by omega,by go_num,HRD3.out,HCN.out,HL9.out,HW9.out,HO9.out⟩
      case measure=>simp [intOf];omega
     ·have hne:¬ ((0:Int) < (ne:Int)):=by omega
      have HRD2:=Lib.hid hrd3
      obtain ⟨da,hda⟩:=hrd1
      obtain ⟨P1,d1,hs1,hv1⟩:=HV.out.cut (j+1) nb (by omega) ((j:Int)+1) ((j:Int)+1+(nb:Int)) (by omega) (by omega)
      have l1:((pl.drop (j+1)).take nb).length≤nb:=by rw [List.length_take];omega
      have m1:=part_map pl (j+1) nb
      have hrt:=HRT.out
      have HI1:Hid (∀ (a:List UInt8) (u:World),a.length+(lnS (rt++[32,32]) (((pl.map (·.s)).drop (j+1)).take nb)).length≤10000000→Below w0.heap.size w0 u→Bld w0.heap.size b a u→Calls Tryz.prog 35 #[.pointer (some ⟨b,0,none⟩),.slice P1 nb d1,.string (SRT++⟨#[32,32]⟩)] u fun e w'=>e = .returned (.tuple #[])∧Bld w0.heap.size b (a++lnS (rt++[32,32]) (((pl.map (·.s)).drop (j+1)).take nb)) w'∧Below w0.heap.size u w'∧OK_ b u w'):=fun a u ha hu hl=>by
       have:=HIH.out ((pl.drop (j+1)).take nb) (.slice P1 nb d1) u (rt++[32,32]) a da (by omega) (by rw [m1];exact hda) (fits_sub HFIT.out mem_part) (by rw [List.length_append];simp only [List.length_cons,List.length_nil];omega) hv1 (by rw [m1];exact ha) hu hl
       rw [m1,str_app,HSRT.out] at this
       exact this
      rw [List.drop_drop,List.drop_drop,← Nat.add_assoc,if_neg (by omega)] at hln
      rw [hln] at hcl
      simp only [List.length_append, tOpen, tShut, List.length_cons, List.length_nil] at hcl
      have HCN:Hid ((cur++(rt++lineS ⟨kind,reg,name,xe,xf,n,nb,ne,pos⟩)++[32,123,10]++lnS (rt++[32,32]) (((pl.map (·.s)).drop (j+1)).take nb)++(rt++[125,10]))++lnS rt ((pl.map (·.s)).drop (j+1+nb+ne))=T):=by
       show _=_
       rw [← hcu,hln]
       simp only [List.append_assoc, List.nil_append, tOpen, tShut]
      have HRD3:Hid (∃ d,Rd true ((pl.map (·.s)).drop (j+1+nb+ne)) d):=by
       have:=HRD2.out
       rw [List.drop_drop,← Nat.add_assoc] at this
       exact this
      clear hcu hln hda HRD2 l1 m1 hv1 hrd3 hrt hrd2
      generalize lineS ⟨kind,reg,name,xe,xf,n,nb,ne,pos⟩=L at HLI zL HCN hcl
      generalize lnS (rt++[32,32]) (((pl.map (·.s)).drop (j+1)).take nb)=L1 at HI1 HCN hcl
      have zL2:L.length≤4000:=by rw [str_size] at zL;exact zL
      have zR2:rt.length≤200:=hr200
      generalize hSL:str L=SL at HLI zL
      have f1:¬ (9223372036854775807 < SRT.size+SL.size):=by omega
      have f2:¬ (9223372036854775807 < SRT.size+2):=by omega
      have f2':¬ (9223372036854775805 < SRT.size):=by omega
      have f3:¬ (9223372036854775807 < SRT.size+9):=by omega
      have f3':¬ (9223372036854775798 < SRT.size):=by omega
      have v2:=wrap_in ((j:Int)+1+(nb:Int)) (by omega) (by omega)
      have v3:=wrap_in ((j:Int)+1+(nb:Int)+(ne:Int)) (by omega) (by omega)
      have j0:(0:Int)≤(j:Int)+1:=by omega
      have HBLK:Hid ((wr.alloc (.cells #[.int .i64 kind,.string (str reg),.string (str name),.slice A5 xe.length c5,.slice A6 xf.length c6,.int .i64 n,.int .i64 (nb:Int),.int .i64 (ne:Int),.int .i64 pos] 31)).heap[wr.heap.size]? = some (.cells #[.int .i64 kind,.string (str reg),.string (str name),.slice A5 xe.length c5,.slice A6 xf.length c6,.int .i64 n,.int .i64 (nb:Int),.int .i64 (ne:Int),.int .i64 pos] 31 (0,0))):=heap_alloc_new _ _
      have HWA:Hid (Below w0.heap.size w (wr.alloc (.cells #[.int .i64 kind,.string (str reg),.string (str name),.slice A5 xe.length c5,.slice A6 xf.length c6,.int .i64 n,.int .i64 (nb:Int),.int .i64 (ne:Int),.int .i64 pos] 31))):=HB.out.trans ((al wr _).mono HSZ.out)
      have HBA:Hid (Below w0.heap.size w0 (wr.alloc (.cells #[.int .i64 kind,.string (str reg),.string (str name),.slice A5 xe.length c5,.slice A6 xf.length c6,.int .i64 n,.int .i64 (nb:Int),.int .i64 (ne:Int),.int .i64 pos] 31))):=HB0.out.trans ((al wr _).mono HSZ.out)
      have HOA:Hid (OK_ b w (wr.alloc (.cells #[.int .i64 kind,.string (str reg),.string (str name),.slice A5 xe.length c5,.slice A6 xf.length c6,.int .i64 n,.int .i64 (nb:Int),.int .i64 (ne:Int),.int .i64 pos] 31))):=HOK.out.trans (OK_below (al wr _))
      have HLA:Hid (Bld w0.heap.size b cur (wr.alloc (.cells #[.int .i64 kind,.string (str reg),.string (str name),.slice A5 xe.length c5,.slice A6 xf.length c6,.int .i64 n,.int .i64 (nb:Int),.int .i64 (ne:Int),.int .i64 pos] 31))):=HBL.out.alloc _
      have HGB:Hid (wr.heap.size≠b):=by have:=HLT.out;show _≠_;omega
      go_upto_region 5 with fail
      generalize World.alloc wr _=Y at HBLK HBA HWA HOA HLA ⊢
      generalize wr.heap.size=g at HBLK HGB ⊢
      clear hx0 hx1 hx2 hx3 hx4 hx5 hx6 hx7 hx8
      have p0:=cell_blk HBLK.out 0
      have p1:=cell_blk HBLK.out 1
      have p2:=cell_blk HBLK.out 2
      have p3:=cell_blk HBLK.out 3
      have p4:=cell_blk HBLK.out 4
      have p5:=cell_blk HBLK.out 5
      have p6:=cell_blk HBLK.out 6
      have p7:=cell_blk HBLK.out 7
      have p8:=cell_blk HBLK.out 8
      go_wp2_with (go_at_call 66;(with_reducible refine (HLI.out _ HBA.out).mono ?_);rintro e w3 ⟨rfl,hb3⟩)
      clear p0 p1 p2 p3 p4 p5 p6 p7 p8
      have HL3:Hid (Bld w0.heap.size b cur w3):=HLA.out.belowN hb3
      have HB3:Hid (Below w0.heap.size w0 w3):=HBA.out.trans (hb3.mono HBA.out.size)
      have HW3:Hid (Below w0.heap.size w w3):=HWA.out.trans (hb3.mono HBA.out.size)
      have HO3:Hid (OK_ b w w3):=HOA.out.trans (OK_below hb3)
      have HK3:Hid (w3.heap[g]? = some (.cells #[.int .i64 kind,.string (str reg),.string (str name),.slice A5 xe.length c5,.slice A6 xf.length c6,.int .i64 n,.int .i64 (nb:Int),.int .i64 (ne:Int),.int .i64 pos] 31 (0,0))):=(hb3.block g (Array.getElem?_eq_some_iff.1 HBLK.out).1).trans HBLK.out
      have HC4:=Lib.hid (HWS.out cur (rt++L) w3 HL3.out (by omega) (by rw [List.length_append];omega) HB3.out.size)
      rw [str_app,HSRT.out,hSL] at HC4
      clear HBLK HBA HWA HOA HLA hb3
      go_at_call 65
      (with_reducible refine (HC4.out).mono ?_)
      rintro e w4 ⟨rfl,hl4,hb4,hk4⟩
      have HL4:=Lib.hid hl4
      have HB4:Hid (Below w0.heap.size w0 w4):=HB3.out.trans hb4
      have HW4:Hid (Below w0.heap.size w w4):=HW3.out.trans hb4
      have HO4:Hid (OK_ b w w4):=HO3.out.trans hk4
      have HK4:Hid (w4.heap[g]? = some (.cells #[.int .i64 kind,.string (str reg),.string (str name),.slice A5 xe.length c5,.slice A6 xf.length c6,.int .i64 n,.int .i64 (nb:Int),.int .i64 (ne:Int),.int .i64 pos] 31 (0,0))):=kept_block hk4 HK3.out HGB.out (by decide)
      have q0:=cell_blk HK4.out 0
      have q7:=cell_blk HK4.out 7
      clear hl4 hb4 hk4 HL3 HB3 HO3 HK3 HC4
      go_wp2_with fail
      have HC5:=Lib.hid (HWS.out _ ([32,123,10]) w4 HL4.out (by simp only [List.length_append];omega) (by simp only [List.length_cons, List.length_nil];omega) HB4.out.size)
      rw [show str [32,123,10] = (⟨#[32,123,10]⟩:ByteArray) from rfl] at HC5
      go_at_call 65
      (with_reducible refine (HC5.out).mono ?_)
      rintro e w5 ⟨rfl,hl5,hb5,hk5⟩
      have HL5:=Lib.hid hl5
      have HB5:Hid (Below w0.heap.size w0 w5):=HB4.out.trans hb5
      have HW5:Hid (Below w0.heap.size w w5):=HW4.out.trans hb5
      have HO5:Hid (OK_ b w w5):=HO4.out.trans hk5
      have HK5:Hid (w5.heap[g]? = some (.cells #[.int .i64 kind,.string (str reg),.string (str name),.slice A5 xe.length c5,.slice A6 xf.length c6,.int .i64 n,.int .i64 (nb:Int),.int .i64 (ne:Int),.int .i64 pos] 31 (0,0))):=kept_block hk5 HK4.out HGB.out (by decide)
      clear hl5 hb5 hk5 HC5 q0 q7
      have q7:=cell_blk HK5.out 7
      go_wp2_with fail
      have HC6:=Lib.hid (HI1.out _ w5 (by simp only [List.length_append,List.length_cons,List.length_nil];omega) HB5.out HL5.out)
      go_at_call 35
      (with_reducible refine (HC6.out).mono ?_)
      rintro e w6 ⟨rfl,hl6,hb6,hk6⟩
      have HL6:=Lib.hid hl6
      have HB6:Hid (Below w0.heap.size w0 w6):=HB5.out.trans hb6
      have HW6:Hid (Below w0.heap.size w w6):=HW5.out.trans hb6
      have HO6:Hid (OK_ b w w6):=HO5.out.trans hk6
      have HK6:Hid (w6.heap[g]? = some (.cells #[.int .i64 kind,.string (str reg),.string (str name),.slice A5 xe.length c5,.slice A6 xf.length c6,.int .i64 n,.int .i64 (nb:Int),.int .i64 (ne:Int),.int .i64 pos] 31 (0,0))):=kept_block hk6 HK5.out HGB.out (by decide)
      clear hl6 hb6 hk6 HC6 q7
      have q7:=cell_blk HK6.out 7
      go_wp2_with fail
      have HC7:=Lib.hid (HWS.out _ (rt++[125,10]) w6 HL6.out (by simp only [List.length_append, List.length_cons, List.length_nil];omega) (by simp only [List.length_append,List.length_cons,List.length_nil];omega) HB6.out.size)
      rw [str_app,HSRT.out,show str [125,10] = (⟨#[125,10]⟩:ByteArray) from rfl] at HC7
      go_at_call 65
      (with_reducible refine (HC7.out).mono ?_)
      rintro e w7 ⟨rfl,hl7,hb7,hk7⟩
      have HL7:=Lib.hid hl7
      have HB7:Hid (Below w0.heap.size w0 w7):=HB6.out.trans hb7
      have HW7:Hid (Below w0.heap.size w w7):=HW6.out.trans hb7
      have HO7:Hid (OK_ b w w7):=HO6.out.trans hk7
      have HK7:Hid (w7.heap[g]? = some (.cells #[.int .i64 kind,.string (str reg),.string (str name),.slice A5 xe.length c5,.slice A6 xf.length c6,.int .i64 n,.int .i64 (nb:Int),.int .i64 (ne:Int),.int .i64 pos] 31 (0,0))):=kept_block hk7 HK6.out HGB.out (by decide)
      clear hl7 hb7 hk7 HC7 q7
      have q7:=cell_blk HK7.out 7
      go_wp2_with fail
      go_roundw
      case rel=>exact ⟨j+1+nb+ne,_,by omega,by go_num,HRD3.out,HCN.out,HL7.out,HW7.out,HO7.out⟩
      case measure=>simp [intOf];omega
  ·have hje:j=pl.length:=by omega
   have HR:Hid (cur=T):=by
    show _=_
    rw [← HCU.out,List.drop_eq_nil_of_le (by rw [List.length_map];omega),lnS_nil,List.append_nil]
   go_wp2_with fail
   refine bodyPost_end (results_none rfl _ _ _) rfl ?_
   exact ⟨rfl,by rw [← HR.out];exact HBL.out,HB.out,HOK.out⟩
theorem showS_c (pl:List Sv) (v:Value) (w0 w:World) (rt acc:List UInt8) (d b:Nat) (h1:Rd true (pl.map (·.s)) d) (h2:∀ x∈pl,Fits x.s) (h3:rt.length+2*pl.length≤200) (h4:Svs w0 v pl) (h5:Env w0) (h6:acc.length+(lnS rt (pl.map (·.s))).length≤10000000) (h7:Below w0.heap.size w0 w) (h8:Bld w0.heap.size b acc w) :
 Calls Tryz.prog 35 #[.pointer (some ⟨b,0,none⟩),v,.string (str rt)] w fun e w'=>e = .returned (.tuple #[])∧Bld w0.heap.size b (acc++lnS rt (pl.map (·.s))) w'∧Below w0.heap.size w w'∧OK_ b w w' :=
 (Nat.strongRecOn (motive:=fun N=>ShowC N) pl.length (fun N IH=>show_step N IH)) pl v w0 w rt acc d b (Nat.le_refl _) h1 h2 h3 h4 h5 h6 h7 h8
theorem showS_no {l:List St} (h:rightS l=false):showS l = []:=by
 unfold showS
 rw [h];rfl
theorem showS_yes {l:List St} (h:rightS l=true):showS l=lnS [] l:=by
 unfold showS
 rw [h];rfl
theorem right_parts {pl:List Sv} (h:rightS (pl.map (·.s))=true):pl.length≤40∧(∀ x∈pl,Fits x.s)∧∃ d,Rd true (pl.map (·.s)) d:=by
 obtain ⟨h1,h2,d,h3,h4⟩:=(rightS_iff _).1 h
 refine ⟨by simpa using h1,fun x hx=>h2 x.s (List.mem_map.2 ⟨x,hx,rfl⟩),d,h4.weak⟩
theorem rShowS_c (pl:List Sv) (hl:pl.length≤100000) (hB:∀ x∈pl,SvB x.s) (v:Value) (w:World) (hv:Svs w v pl) :
 Calls Tryz.prog 19 #[v] w fun e w'=>e = .returned (.string (str (showS (pl.map (·.s)))))∧Below w.heap.size w w':=by
 have HC:=Lib.hid (rRightS_c pl hl hB v w hv)
 obtain ⟨A0,c0,rfl,hc0⟩:=hv.shape
 cases hr:rightS (pl.map (·.s))
 ·have HS:=Lib.hid (showS_no hr)
  rw [hr] at HC
  clear hv hB hr
  go_enter Tryz.func19,Tryz.ntmps19
  go_wp2_with (go_at_call 17;(with_reducible refine (HC.out).mono ?_);rintro e w1 ⟨rfl,hb1⟩)
  go_ret
  exact ⟨ret_str (by rw [HS.out];rfl),hb1⟩
 ·have HS:=Lib.hid (showS_yes hr)
  obtain ⟨h40,hfit,d,hrd⟩:=right_parts hr
  have HL:Hid (∀ u,Below w.heap.size w u→Calls Tryz.prog 37 #[.slice A0 pl.length c0,.string ⟨#[]⟩] u fun e w'=>e = .returned (.string (str (lnS [] (pl.map (·.s)))))∧Below u.heap.size u w'):=fun u hu=>rlinesS_c pl _ u [] d hrd hfit (by simp only [List.length_nil];omega) (hv.below hu)
  rw [hr] at HC
  clear hv hB hr hfit hrd
  go_enter Tryz.func19,Tryz.ntmps19
  go_wp2_with (first | (go_at_call 17;(with_reducible refine (HC.out).mono ?_);rintro e w1 ⟨rfl,hb1⟩) | (go_at_call 37;(with_reducible refine (HL.out _ hb1).mono ?_);rintro e w2 ⟨rfl,hb2⟩))
  go_ret
  exact ⟨ret_str (by rw [HS.out]),bt hb1 hb2⟩
theorem ShowS_c (pl : List Sv) (hl : pl.length ≤ 100000) (hB : ∀ x ∈ pl, SvB x.s) (v : Value) (w : World) (hv : Svs w v pl) (hE : Env w) :
    Calls Tryz.prog 18 #[v] w fun e w' => e = .returned (.string (str (showS (pl.map (·.s))))) ∧ Below w.heap.size w w' := by
  have HC := Lib.hid (RightS_c pl hl hB v w hv hE)
  obtain ⟨A0, c0, rfl, hc0⟩ := hv.shape
  cases hr : rightS (pl.map (·.s))
  · have HS := Lib.hid (showS_no hr)
    rw [hr] at HC
    clear hv hB hr hE
    go_enter Tryz.func18, Tryz.ntmps18
    go_wp2_with (go_at_call 16; (with_reducible refine (HC.out).mono ?_); rintro e w1 ⟨rfl, hb1⟩)
    go_ret
    exact ⟨ret_str (by rw [HS.out]; rfl), hb1⟩
  · have HS := Lib.hid (showS_yes hr)
    obtain ⟨h40, hfit, d, hrd⟩ := right_parts hr
    have hlen : (lnS [] (pl.map (·.s))).length ≤ 10000000 := by
      have := lnS_len hrd (mem_fits hfit (fun x h => h)) [] (by rw [List.length_map]; simp only [List.length_nil]; omega)
      rw [List.length_map] at this
      omega
    have HSH : Hid (∀ u, Below w.heap.size w u → Calls Tryz.prog 35 #[.pointer (some ⟨u.heap.size, 0, none⟩), .slice A0 pl.length c0, .string ⟨#[]⟩] (u.alloc (.cells #[.pointer none, .slice none 0 0] 65)) fun e w' => e = .returned (.tuple #[]) ∧ Bld u.heap.size u.heap.size (lnS [] (pl.map (·.s))) w' ∧ Below u.heap.size u w') := fun u hu =>
      (showS_c pl _ u _ [] [] d u.heap.size hrd hfit (by simp only [List.length_nil]; omega) (hv.below hu) (hE.below hu) (by simp only [List.length_nil]; omega) (al u _) (bld_new u)).mono fun e w' h => ⟨h.1, h.2.1, (al u _).trans h.2.2.1⟩
    rw [hr] at HC
    clear hv hB hr hfit hrd hE hlen
    go_enter Tryz.func18, Tryz.ntmps18
    go_wp2_with (first
      | (go_at_call 16; (with_reducible refine (HC.out).mono ?_); rintro e w1 ⟨rfl, hb1⟩; have HB1 := Lib.hid hb1)
      | (go_at_call 35; (with_reducible refine (HSH.out _ HB1.out).mono ?_); rintro e w2 ⟨rfl, hl2, hb2⟩; have HST := Lib.hid (bstr_c _ _ _ _ hl2 hb2.size); have HB2 := Lib.hid hb2; clear hl2 hb2)
      | (go_at_call 36; (with_reducible refine (HST.out).mono ?_); rintro e w3 ⟨rfl, hb3⟩))
    go_ret
    exact ⟨ret_str (by rw [HS.out]), bt HB1.out (HB2.out.trans hb3)⟩
end Go.Proofs.YtaoeaaebafcegaaGreatDoor

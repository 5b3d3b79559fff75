/- Chapter 05 (programs), joined: PgpF, PgpG, PgpH, PgpI, PrgD, PrgE, PrgF, PrgG, PrgH. -/
import Derived.Test.YtjcihcncljihoaaGreatDoorPb14
import Derived.Test.YtjcihcncljihoaaGreatDoorPb15
import Derived.Laws.EntriesVeiled
set_option maxRecDepth 100000
set_option maxHeartbeats 8000000
namespace Go.Proofs.YtjcihcncljihoaaGreatDoor
open Go Go.RowKit
set_option linter.unusedVariables false
open Bool renaming and_eq_true→Raa,not_eq_true'→qda
open Eh renaming app→kda
open Ex renaming bare_flat→rca
open GK renaming refl→gda
open Go.Addr.mk renaming injEq→eda
open Go.Instr renaming index→jda
open Go.IntKind renaming i64→Xca
open Go.IntWalk renaming i64_in→Yca
open Go.Lib renaming hid→kaa,itoa→Paa
open Go.RowKit.Below renaming heap_setCell→xca,refl→Gaa
open Go.Value.slice renaming injEq→bca
open Go.World renaming cell?_of_block→Gca,ownsRow_nil→Lca,setCell→eca
open Int renaming le_refl→uca,natCast_nonneg→Sba
open List renaming all_cons→Uaa,all_eq_true→pda,all_map→tda,append_assoc→oca,append_nil→Maa,flatMap_cons→baa,foldl_cons→sda,getElem_mem→dba,isEmpty_eq_false_iff→rda,length_append→xaa,length_cons→jaa,length_eq_zero_iff→yda,length_map→Oca,length_nil→Xaa,map→nda,map_append→Zaa,map_cons→tca,map_drop→xda,map_map→oda,map_take→vda,mem_append→vca,mem_cons→Aaa,mem_cons_of_mem→lda,mem_map→mda,mem_of_mem_drop→wda,mem_of_mem_take→uda,mem_singleton→ida,nil_append→Yaa
open Nat renaming le_of_lt→nba,le_refl→aaa,le_trans→yba,lt_of_lt_of_le→mba,zero_add→paa,zero_le→laa
open Option.some renaming injEq→dda
open uh renaming refl→Aba
open xh renaming cells→cda,cells_len→fda
open Go.Proofs.Tryz renaming prog→maa
theorem jc{P:Prop}(h:P:=by simp only[nw,List.length_cons,List.length_append,List.length_nil];rw[show i+1+(ck r).length+1=i+((ck r).length+(0+1)+1) by omega]):P:=h
theorem Oc{P:Prop}(h:P:=by subst hX;exact⟨by simp,by simp[go_sem],by simp[go_sem],by simp[go_sem],by simp[go_sem],fun j=>by simp[go_sem]⟩):P:=h
theorem ud{P:Prop}(h:P:=by have a:=hT.pos0;have b:=hT.pos1;unfold vk;simp only[Bool.and_eq_true,decide_eq_true_eq];omega):P:=h
theorem Ld{P:Prop}(h:P:=by intro u hu;obtain⟨x,_,hx⟩:=List.mem_flatMap.1 hu;rw[List.mem_singleton.1 hx];rfl):P:=h
theorem Xe{P:Prop}(h:P:=by unfold Ek;rw[if_neg (fun h=>by have:=Zj h;omega)]):P:=h
theorem Df{P:Prop}(h:P:=by injection hr with hr;exact zt h hn (by decide) hr):P:=h
theorem yg{P:Prop}(h:P:=by simp[results,Tryz.results145,go_sem,z0,z1,z2,z3]):P:=h
theorem Jg{P:Prop}(h:P:=by have:=Ew (q:=q.1) (t:=q.2) hp;omega):P:=h
def xF(l:List xh)(i:Nat):RS (List (List UInt8)):=match Oh l [123] i with
 | .inr e=>.inr e
 | .inl (_,j)=>Zp l j
theorem mz(l:List xh)(s:List UInt8)(p:Int)(i:Nat):kn l s p i=match xF l i with
  | .inr e=>.inr e
  | .inl (r,k)=>match Yl l i k with
   | .inr e=>.inr e
   | .inl (x,t)=>.inl (⟨s,r,x,p⟩,t):=by
 unfold kn xF
 cases Oh l [123] i with
 |inr e=>rfl
 |inl q=>rfl
structure TB (w:World) (h:Nat) (a b c d:Value):Prop where
 lt:h < w.heap.size
 c0:w.cell? ⟨h,0,none⟩=some a
 c1:w.cell? ⟨h,1,none⟩=some b
 c2:w.cell? ⟨h,2,none⟩=some c
 c3:w.cell? ⟨h,3,none⟩=some d
 fr:∀ j,w.frozen? ⟨h,j,none⟩=false
section
variable {w w' : World} {g h : Nat} {a b c d : Value}
theorem TB.blk(k:TB w h a b c d)(E:w.heap.size≤w'.heap.size)(A:w'.heap[h]? = w.heap[h]?):TB w' h a b c d:=by have e:=fun j=>Gca (a:=⟨h,j,none⟩) A;exact⟨mba k.lt E,(e 0).trans k.c0,(e 1).trans k.c1,(e 2).trans k.c2,(e 3).trans k.c3,fun j=>(World.frozen?_of_block (a:=⟨h,j,none⟩) A).trans (k.fr j)⟩
theorem TB.kp(k:TB w h a b c d)(E:uh g w w')(A:h≠g):TB w' h a b c d:=k.blk E.size (E.block h k.lt A)
theorem TB.below(k:TB w h a b c d)(A:Below w.heap.size w w'):TB w' h a b c d:=k.blk A.size (A.block h k.lt)
theorem TB.far(k:TB w h a b c d){q:Nat}(A:h≠q)(j:Nat)(x:Value):TB (w.setCell ⟨q,j,none⟩ x) h a b c d:=k.blk (by simp[eca]) (xca _ _ _ _ A)
theorem TB.grown(k:TB w h a b c d){row:Option Nat}(E:w.grownBy w' row)(A:row≠some h):TB w' h a b c d:=k.blk E.size (E.block h k.lt (fun e=>A e.symm))
theorem TB.set1(k:TB w h a b c d)(u:Value):TB (w.setCell ⟨h,1,none⟩ u) h a u c d:=⟨jk k.lt,wh k.c0 Uf,ui k.c1 (k.fr 1),wh k.c2 Uf,wh k.c3 Uf,di k.fr⟩
theorem TB.set2(k:TB w h a b c d)(u:Value):TB (w.setCell ⟨h,2,none⟩ u) h a b u d:=⟨jk k.lt,wh k.c0 Uf,wh k.c1 Uf,ui k.c2 (k.fr 2),wh k.c3 Uf,di k.fr⟩
end
theorem IG:(Tryz.prog.info? 9).map (fun i=>(i.zero,i.size,i.bytes))=some (some (.string ByteArray.empty),1,16):=by kernel_rfl
theorem ON{l:List xh}{s:List UInt8}{i:Nat}{e:Int}(hi:i≤l.length):mI l s i e≤l.length:=by
 unfold mI;split;·rename_i h;exact Zj h.2
 ·exact hi
theorem Rv(l:List xh)(s:List UInt8)(i:Nat)(e p:Int)(I:e=0→p=0):(mE l s i e=0∧e=0∧mP l s i e p=0∧Oh l s i = .inl ((),mI l s i e))∨(¬ mE l s i e=0∧(e=0→Oh l s i = .inr (mE l s i e,mP l s i e p))∧(¬ e=0→mE l s i e=e∧mP l s i e p=p)):=by
 by_cases A:e=0
 ·subst A;obtain rfl:=I rfl;unfold Oh;by_cases E:Qh l i s=true;·exact .inl ⟨if_pos ⟨rfl,E⟩,rfl,if_pos ⟨rfl,E⟩,by rw[if_pos E,show mI l s i 0=i+1 from if_pos ⟨rfl,E⟩]⟩
  ·have G:mE l s i 0=(cj l i 5).1:=by unfold mE wE cj;rw[if_neg (fun h=>E h.2),if_pos rfl]
   have H:mP l s i 0 0=(cj l i 5).2:=by unfold mP wP cj;rw[if_neg (fun h=>E h.2),if_pos rfl]
   exact .inr ⟨by rw[G];have:=Zl l i 5 Uf;omega,fun _=>by rw[if_neg E,G,H],fun h=>absurd rfl h⟩
 ·have G:mE l s i e=e:=by unfold mE wE;rw[if_neg (fun h=>A h.1),if_neg A]
  have H:mP l s i e p=p:=by unfold mP wP;rw[if_neg (fun h=>A h.1),if_neg A]
  exact .inr ⟨by rw[G];exact A,fun h=>absurd h A,fun _=>⟨G,H⟩⟩
def jR(l:List xh)(i:Nat)(e p:Int)(rs:List (List UInt8))(j:Nat)(A E:Int):Prop :=
 (e=0∧A=0∧E=0∧xF l i = .inl (rs,j))∨(¬ A=0∧(e=0→xF l i = .inr (A,E))∧(¬ e=0→A=e∧E=p))
theorem Aq.at_{w:World}{v:Value}{l:List Xh}(h:Aq w v l)(I:0<l.length):∃ b off c,v = .slice (some ⟨b,off,none⟩) l.length c∧∀ k (H:k<l.length),w.cell? ⟨b,off+k*3,none⟩=some (.string (vh l[k].name))∧w.cell? ⟨b,off+k*3+1,none⟩=some (.int .i64 l[k].n)∧w.cell? ⟨b,off+k*3+2,none⟩=some (.int .i64 l[k].pos):=by obtain⟨_,A,c,Q,Y,L⟩:=h;obtain⟨b,off,J,O,E⟩:=L I;subst J;refine⟨b,off,c,Q,fun k H=>?_⟩;have G:=fun j M=>ei Xh.cells 3 Xh.cells_len l k j H M;exact⟨E _ _ (G 0 Tf),E _ _ (G 1 Tf),E _ _ (G 2 Tf)⟩
theorem eJ(l:List (List UInt8)):∀ u∈l.flatMap Mh,u.oneCell'=true:=by exact Ld
theorem bO(U:World)(s:List UInt8):bi (U.alloc (.cells #[.string (vh s)] 9)) (.slice (some ⟨U.heap.size,0,none⟩) 1 1) 1 1 ([s].flatMap Mh):=by have:=zk U (Mh s) 9 1 1 1 rfl (aaa _);rw[show[s].flatMap Mh=Mh s by simp];exact this
theorem AI(l:List xh):∀ u∈l.flatMap cda,u.oneCell'=true:=by intro u E;obtain⟨x,_,A⟩:=List.mem_flatMap.1 E;simp only[cda,Aaa,List.not_mem_nil,or_false]at A;rcases A with rfl|rfl|rfl|rfl<;>rfl
theorem uC{l:List xh}{o k t:Nat}{x:List St}(h:Yl l o k = .inl (x,t)):t≤l.length:=by
 unfold Yl at h
 cases hr:Ij (ej (mi l 12) false l) l (l.length+1 - k) k with
 |inr e=>rw[hr]at h;cases h
 |inl q =>
  rw[hr]at h
  simp only at h
  cases A:Oh l [125] q.2 with
  |inr e=>rw[A]at h;cases h
  |inl E =>
   have G:=yj (u:=E.1) (j:=E.2) A
   rw[A]at h
   simp only at h
   split at h
   ·cases h
   ·cases h;omega
theorem GO{l:List xh}{i j:Nat}{rs:List (List UInt8)}(h:xF l i = .inl (rs,j)):Qh l i [123]=true:=by
 unfold xF at h
 cases A:Oh l [123] i with
 |inr e=>rw[A]at h;cases h
 |inl q=>exact(yj (u:=q.1) (j:=q.2) A).1
theorem nK{l:List xh}{i j:Nat}{rs:List (List UInt8)}(h:xF l i = .inl (rs,j)):i<l.length∧i<j:=by
 unfold xF at h
 cases A:Oh l [123] i with
 |inr e=>rw[A]at h;cases h
 |inl q =>
  have G:=yj (u:=q.1) (j:=q.2) A
  rw[A]at h
  simp only at h
  unfold Zp at h
  split at h
  ·cases hr:fl false l (q.2+1)with
   |inr e=>rw[hr]at h;cases h
   |inl E =>
    have:=Pl (cs:=E.1) (j:=E.2) hr
    rw[hr]at h
    cases h
    omega
  ·cases h;omega
structure EQ (w:World) (g:Nat) (v:Value) (j:Nat) (e p:Int) (o:Nat→Value) (s:List UInt8) (pos:Int) (CS:Value) (cs:List Xh) (V:Value) (k:Nat) (wr:World):Prop where
 gk:GK w g v j e p o wr
 tb:TB wr w.heap.size (.string (vh s)) V (.slice none 0 0) (.int .i64 pos)
 rb:TB wr (w.heap.size+1) (.string ⟨#[]⟩) (.slice none 0 0) (.slice none 0 0) (.int .i64 0)
 own:wr.ownsRow (w.heap.size+2) 9 1 V k (((cs.take k).map (·.name)).flatMap Mh)
 cel:Ok (fun x=>V.ownBlock=some x∨x=w.heap.size) wr (fun u=>Aq u CS cs)
theorem EQ.next{w:World}{g:Nat}{v:Value}{j:Nat}{e p:Int}{o:Nat→Value}{s:List UInt8}{pos:Int}{CS:Value}{cs:List Xh}{V V':Value}{n:Nat}{wr U w6:World}(h:EQ w g v j e p o s pos CS cs V n wr)(J:g<w.heap.size)(E:Below wr.heap.size wr U)(A:w6.ownsRow (w.heap.size+2) 9 1 V' (n+1) (((cs.take (n+1)).map (·.name)).flatMap Mh))(H:Below (w.heap.size+2) U w6)(I:U.grownBy w6 V.ownBlock)(G:V'.ownBlock=V.ownBlock∨V'.ownBlock=some U.heap.size):EQ w g v j e p o s pos CS cs V' (n+1) (w6.setCell ⟨w.heap.size,1,none⟩ V'):=by
 have L:=Ih h.own E;exact⟨((h.gk.below E).belowB (H.mono Tf) J).far (aaa _) Tf _ _,((h.tb.below E).grown I (jo L Tf)).set1 _,((h.rb.below E).grown I (jo L Tf)).far Tf _ _,
  xl A (fun b H=>xca _ _ _ _ (by have:=(A.lt b H).1;show b≠w.heap.size;omega)),((h.cel.below E).app2 I G).setCell _ (.inr rfl) _⟩
theorem TB.set4{w:World}{h:Nat}{a b c d:Value}(k:TB w h a b c d)(x y z q:Value):TB ((((w.setCell ⟨h,0,none⟩ x).setCell ⟨h,1,none⟩ y).setCell ⟨h,2,none⟩ z).setCell ⟨h,3,none⟩ q) h x y z q :=
 ⟨jk (jk (jk (jk k.lt))),wh (wh (wh (ui k.c0 (k.fr 0)) Uf) Uf) Uf,wh (wh (ui (wh k.c1 Uf) (di k.fr _)) Uf) Uf,
  wh (ui (wh (wh k.c2 Uf) Uf) (di (di k.fr) _)) Uf,ui (wh (wh (wh k.c3 Uf) Uf) Uf) (di (di (di k.fr)) _),di (di (di (di k.fr)))⟩
theorem yI{w:World}{E J m:Nat}{l:List xh}(t:xh)(h:Vi w (.slice (some ⟨E,0,none⟩) l.length J) l)(hm:m<l.length)(Q:∀ j,w.frozen? ⟨E,j,none⟩=false):Vi ((((w.setCell ⟨E,m*4,none⟩ (.int .i64 t.kind)).setCell ⟨E,m*4+1,none⟩ (.string (vh t.text))).setCell ⟨E,m*4+2,none⟩ (.int .i64 t.n)).setCell ⟨E,m*4+3,none⟩ (.int .i64 t.pos)) (.slice (some ⟨E,0,none⟩) l.length J) (l.set m t):=by
 obtain⟨b,off,c,hv,hc,Y,M⟩:=h.at_ Tf;simp only[bca,dda,eda,and_true,true_and]at hv;obtain⟨⟨rfl,rfl⟩,rfl⟩:=hv;have G:(l.set m t).length=l.length:=by simp
 refine⟨by rw[bo _ 4 fda],some ⟨E,0,none⟩,J,by rw[G],by rw[G];exact hc,fun _=>⟨E,0,rfl,jk (jk (jk (jk Y))),fun j u hj=>?_⟩⟩;have ad:j<l.length*4:=by have h1:=(List.getElem?_eq_some_iff.1 hj).1;rw[bo _ 4 fda,G]at h1;exact h1
 have hq:j / 4<(l.set m t).length:=by rw[G];omega
 have I:=ei cda 4 fda (l.set m t) (j / 4) (j % 4) hq Tf;rw[show j / 4*4+j % 4=j by omega,hj]at I;have H:=M m hm;rw[paa]at H;rw[paa];by_cases O:j / 4=m
 ·have Z:(l.set m t)[j / 4]=t:=by subst O;simp
  rw[Z]at I;have hr:j % 4=0∨j % 4=1∨j % 4=2∨j % 4=3:=by omega
  rcases hr with hr|hr|hr|hr<;>rw[hr]at I
  ·obtain rfl:j=m*4:=by omega
   cases I;exact wh (wh (wh (ui H.kind (Q _)) Tf) Tf) Tf
  ·obtain rfl:j=m*4+1:=by omega
   cases I;exact wh (wh (ui (wh H.text Tf) (di Q _)) Tf) Tf
  ·obtain rfl:j=m*4+2:=by omega
   cases I;exact wh (ui (wh (wh H.n Tf) Tf) (di (di Q) _)) Tf
  ·obtain rfl:j=m*4+3:=by omega
   cases I;exact ui (wh (wh (wh H.pos Tf) Tf) Tf) (di (di (di Q)) _)
 ·have Z:(l.set m t)[j / 4]=l[j / 4]' Tf:=by rw[List.getElem_set_ne (fun e=>O e.symm)]
  rw[Z]at I;have A:=M (j / 4) Tf;rw[paa]at A;have hr:j % 4=0∨j % 4=1∨j % 4=2∨j % 4=3:=by omega
  have L:w.cell? ⟨E,j,none⟩=some u:=by
   rcases hr with hr|hr|hr|hr<;>rw[hr]at I<;>cases I;·exact(congrArg (fun x=>w.cell? ⟨E,x,none⟩) (show j=j / 4*4 by omega)).trans A.kind
   ·exact(congrArg (fun x=>w.cell? ⟨E,x,none⟩) (show j=j / 4*4+1 by omega)).trans A.text
   ·exact(congrArg (fun x=>w.cell? ⟨E,x,none⟩) (show j=j / 4*4+2 by omega)).trans A.n
   ·exact(congrArg (fun x=>w.cell? ⟨E,x,none⟩) (show j=j / 4*4+3 by omega)).trans A.pos
  exact wh (wh (wh (wh L Tf) Tf) Tf) Tf
theorem xL{B Z:Nat}{w:World}{x:Tv}(hr:w.ownsRow (B+2) 9 1 x.rv x.regs.length (x.regs.flatMap Mh))(H:ll (fun k=>k<Z) Z w x.bv x.pl)(O:B+2≤Z):Ok (fun k=>k<B+2) w (fun u=>Fx u x):=by have J:Ok (fun k=>k<B+2) w (fun u=>Tr u x.rv x.regs):=Gm hr (fun k G h=>by have:=(hr.lt k G).1;have I:k<B+2:=h;omega);have L:Ok (fun k=>k<B+2) w (fun u=>bi u x.bv 9 x.pl.length (x.pl.flatMap Sv.cells)):=Gm H.own (fun k G h=>by have:=(H.own.lt k G).1;have I:k<B+2:=h;omega);exact fun w' A E=>⟨J w' A E,L w' A E,fun y M=>by have:=((H.nods y M).mono (S':=fun k=>k<B+2) (fun k _ h=>.inr (by have I:k<B+2:=h;show k<Z;omega))) w' A E;exact⟨this.1.nods,this.2.nods⟩⟩
def CE(l:List xh)(g:Nat)(v:Value)(w:World)(i:Nat)(e p:Int)(o:Nat→Value)(s:List UInt8)(pos:Int)(r:Ending)(w':World):Prop :=
 ∃ (x:Tv) (G H:Option Addr) (c1 c2 j:Nat) (A E:Int),r = .returned (.agg #[.string (vh s),x.rv,x.bv,.int .i64 pos])∧x.rv = .slice G x.regs.length c1∧x.bv = .slice H x.pl.length c2∧x.name=s∧x.pos=pos∧GK w g v j A E o w'∧j≤l.length ∧
  ((e=0∧A=0∧E=0∧kn l s pos i = .inl (x.t,j)∧Ok (fun k=>k<w.heap.size) w' (fun u=>Fx u x))∨(¬ A=0∧(e=0→kn l s pos i = .inr (A,E))∧(¬ e=0→A=e∧E=p)))
theorem BF(l:List xh)(hl:l.length≤100000)(dd:∀ t∈l,t.text.length≤1000000)(g:Nat)(v:Value)(o:Nat→Value)(i:Nat)(hi:i≤l.length)(e p:Int)(fT:e=0→p=0)(s:List UInt8)(pos:Int)(w:World)(hp:PG w g v i e p o)(hc:Jm g v l w):Calls maa 145 #[.pointer (some ⟨g,0,none⟩),.agg #[.string (vh s),.slice none 0 0,.slice none 0 0,.int .i64 pos]] w (CE l g v w i e p o s pos):=by
 have HC:=kaa (fun(u:World) (h:uh g w u)=>hc.keep h hp.lt);have aX:=kaa hp.lt;have HG:=kaa (gda hp);obtain⟨i0,eg,es,ey,eT⟩:=info_parts IG;clear hc hp;go_enter Tryz.func145,Tryz.ntmps145;go_upto_region 1 with fail;generalize hX:World.alloc _ _=X;have bW:GK w g v i e p o X:=by subst hX;exact(HG.out.alloc _).alloc _
 have d7:TB X w.heap.size (.string (vh s)) (.slice none 0 0) (.slice none 0 0) (.int .i64 pos):=by subst hX;exact⟨by simp;omega,by simp[go_sem],by simp[go_sem],by simp[go_sem],by simp[go_sem],fun j=>by simp[go_sem]⟩
 have d6:TB X (w.heap.size+1) (.string ⟨#[]⟩) (.slice none 0 0) (.slice none 0 0) (.int .i64 0):=by exact Oc
 clear hX;have dg:=kaa bW;have dY:=kaa d7;have dU:=kaa d6;have E:Hid (w.heap.size≠g∧w.heap.size+1≠g):=by have:=aX.out;exact⟨by omega,by omega⟩
 have dX:=kaa (Nz l hl [123] g v o i Tf e p X bW.pg (HC.out X bW.kp));obtain⟨pl,p0,p1,p2,p3,p4,pf⟩:=bW.pg;clear d7 d6;have av:Hid ((mE l [123] i e=0∧e=0∧mP l [123] i e p=0∧Oh l [123] i = .inl ((),mI l [123] i e))∨(¬ mE l [123] i e=0∧(e=0→Oh l [123] i = .inr (mE l [123] i e,mP l [123] i e p))∧(¬ e=0→mE l [123] i e=e∧mP l [123] i e p=p))):=Rv l [123] i e p fT;have HJ:Hid (mI l [123] i e≤l.length):=ON hi;go_upto_region 3 with(go_at_call 147;refine dX.out.mono ?_;rintro r w2 ⟨rfl,h2⟩);have aV:=kaa (dg.out.trans h2);have dZ:=kaa (dY.out.kp h2.kp E.out.1);have dV:=kaa (dU.out.kp h2.kp E.out.2);clear dX dg dY dU h2 pl p0 p1 p2 p3 p4 pf bW;generalize mI l [123] i e=M at av HJ aV;generalize mE l [123] i e=e1 at av aV;generalize mP l [123] i e p=p1 at av aV;have bY:=kaa (WD l hl yk g v o M (by have:=HJ.out;omega) e1 p1 w2 aV.out.pg (HC.out w2 aV.out.kp));have a3:Hid ((hB l yk M e1=true∧mI l yk M e1=M+1∧e1=0∧Qh l M yk=true)∨(hB l yk M e1=false∧mI l yk M e1=M∧¬ (e1=0∧Qh l M yk=true))):=by
  by_cases hy:e1=0∧Qh l M yk=true;·have h0:=hy.1;subst h0;exact .inl ⟨(Qr hy.2).1,(Qr hy.2).2,rfl,hy.2⟩
  ·have h1:=Oy (l:=l) (s:=yk) (i:=M) (e:=e1) (fun he=>by cases hx:Qh l M yk;rfl;exact absurd ⟨he,hx⟩ hy);exact .inr ⟨h1.1,h1.2,hy⟩
 generalize hB l yk M e1=y at bY a3;generalize mI l yk M e1=j0 at bY a3;go_upto_if 20 with(go_at_call 185;refine bY.out.mono ?_;rintro r w3 ⟨rfl,h3⟩);have a9:=kaa (aV.out.trans h3);have b3:=kaa (dZ.out.kp h3.kp E.out.1);have bL:=kaa (dV.out.kp h3.kp E.out.2);have bf:Hid (w.heap.size+2≤w3.heap.size):=bL.out.lt;clear bY aV dZ dV h3;go_cut [23]from 21 to 35 (fun _ wx=>∃ (rs:List (List UInt8)) (A:Option Addr) (c j:Nat) (e2 p2:Int),GK w g v j e2 p2 o wx∧j≤l.length∧TB wx w.heap.size (.string (vh s)) (.slice A rs.length c) (.slice none 0 0) (.int .i64 pos) ∧
  TB wx (w.heap.size+1) (.string ⟨#[]⟩) (.slice none 0 0) (.slice none 0 0) (.int .i64 0)∧wx.ownsRow (w.heap.size+2) 9 1 (.slice A rs.length c) rs.length (rs.flatMap Mh)∧jR l i e p rs j e2 p2)
 case first =>
  cases y
  ·obtain⟨rfl,hy⟩:j0=M∧¬ (e1=0∧Qh l M yk=true):=by
    rcases a3.out with h|h;·cases h.1
    ·exact h.2
   have HH:Hid (jR l i e p [] j0 e1 p1):=by
    rcases av.out with h|h;·refine .inl ⟨h.2.1,h.1,h.2.2.1,?_⟩;unfold xF;rw[h.2.2.2];exact if_neg (fun hx=>hy ⟨h.1,hx⟩)
    ·refine .inr ⟨h.1,fun he=>?_,h.2.2⟩;unfold xF;rw[h.2.1 he]
   clear hy av a3;go_wp2_with fail;go_meet;exact⟨[],none,0,j0,e1,p1,a9.out,HJ.out,b3.out,bL.out,Lca _ _ _ _,HH.out⟩
  ·obtain⟨rfl,rfl,hy⟩:j0=M+1∧e1=0∧Qh l M yk=true:=by
    rcases a3.out with h|h;·exact h.2
    ·cases h.1
   have bs:=Zj hy;obtain⟨he,fW,It⟩:e=0∧p1=0∧Oh l [123] i = .inl ((),M):=by
    rcases av.out with h|h;·exact h.2
    ·exact absurd rfl h.1
   subst fW;have bR:Hid (e=0∧xF l i=match fl false l (M+1)with|.inr e=>.inr e|.inl (r,t)=>.inl (r.map (·.name),t)):=⟨he,by unfold xF;rw[It];exact if_pos hy⟩;have cv:=kaa (jt l hl dd false g v o (M+1) bs w3 a9.out.pg (HC.out w3 a9.out.kp));unfold su at cv;clear av hy a3 he It;go_upto_region 5 with(go_at_call 143;refine cv.out.mono ?_;rintro r w4 ⟨A,c,cs,j2,e2,p2,rfl,O,hk,gf,fU,hd⟩);have e0:=kaa (a9.out.trans hk);have e9:=kaa (b3.out.kp hk.kp E.out.1);have dW:=kaa (bL.out.kp hk.kp E.out.2);have e7:Hid (w.heap.size+2≤w4.heap.size):=dW.out.lt;have bX:Hid (Ok (fun x=>(Value.slice none 0 0).ownBlock=some x∨x=w.heap.size) w4 (fun u=>Aq u (.slice A cs.length c) cs)):=Gm O (fun k fV hn=>by
    have:=(O.lt k fV).1;have:=bf.out;rcases hn with h|h;·cases h
    ·omega)
   have HD:Hid (jR l i e p (cs.map (·.name)) j2 e2 p2):=by
    rcases hd with⟨h1,h2,h3⟩|⟨h1,h3⟩;·exact .inl ⟨bR.out.1,h1,h2,by rw[bR.out.2,h3]⟩
    ·exact .inr ⟨h1,fun _=>by rw[bR.out.2,h3],fun h=>absurd bR.out.1 h⟩
   clear O hk hd cv bR a9 b3 bL;go_loopw [24] (fun k wr=>∃ (n:Nat) (A5:Option Addr) (c5:Nat),k = .int .i64 n∧n≤cs.length∧w.heap.size+2≤wr.heap.size∧EQ w g v j2 e2 p2 o s pos (.slice A cs.length c) cs (.slice A5 n c5) n wr) (fun k _=>cs.length - (intOf k).toNat);case atStart=>exact⟨0,none,0,rfl,laa _,e7.out,e0.out,e9.out,dW.out,Lca _ _ _ _,bX.out⟩
   case round =>
    obtain⟨n,A5,c5,rfl,hn,fY,hI⟩:=hrel;have HI:=kaa hI;clear hI;by_cases db:n<cs.length
    ·obtain⟨cb,gc,cc,d9,bU⟩:=HI.out.cel.now.at_ Tf;simp only[bca]at d9;obtain⟨rfl,_,rfl⟩:=d9;obtain⟨x0,x1,x2⟩:=bU n db;have bg:Hid ((cs.take (n+1)).map (·.name)=(cs.take n).map (·.name)++[(cs[n]).name]):=by show _=_;rw[List.take_succ_eq_append_getElem db,Zaa];rfl
     generalize cs[n]=k at bg x0 x1 x2;clear bU;go_upto_region 7 with fail;have hU:=al wr (.cells #[.string (vh k.name),.int .i64 k.n,.int .i64 k.pos] 48);have y0:(wr.alloc (.cells #[.string (vh k.name),.int .i64 k.n,.int .i64 k.pos] 48)).cell? ⟨wr.heap.size,0,none⟩=some (.string (vh k.name)):=by simp[go_sem]
     have ct:Hid (w.heap.size+2≤(wr.alloc (.cells #[.string (vh k.name),.int .i64 k.n,.int .i64 k.pos] 48)).heap.size):=yba fY hU.size;generalize wr.alloc _=U at hU y0 ct ⊢;have HU:=kaa hU;have t1:=(HI.out.tb.below hU).c1;have HT:Hid (n+1≤maxLen∧(n+1)*16≤140737488355328):=by show _∧_;unfold maxLen;constructor<;>omega
     clear hU x0 x1 x2;go_wp2_with (at_builtin;refine Wk rfl _ _ 38 rfl (w.heap.size+2) 9 i0 _ 1 16 Tryz.underlying38 eg es ey eT rfl Uf (.slice A5 n c5) n (((cs.take n).map (·.name)).flatMap Mh) rfl (Ih (Ih HI.out.own HU.out) (al U _)) (.slice (some ⟨U.heap.size,0,none⟩) 1 1) 1 ([k.name].flatMap Mh) rfl (bO U k.name) (eJ _) HT.out.1 HT.out.2 (yba ct.out (al U _).size) ?_;intro v6 w6 a5 cZ da b7;obtain⟨A6,c6,rfl⟩:=yh a5;have HN:=kaa (HI.out.next (V':=.slice A6 (n+1) c6) aX.out (bt HU.out (al U _)) (by rw[bg.out,List.flatMap_append];exact a5) cZ da b7);have cX:=((HI.out.tb.below HU.out).below (al U _)).grown da (jo HI.out.own Tf);have q1:=cX.c1;have q2:=cX.fr 1;have e8:Hid (w.heap.size+2≤w6.heap.size):=yba (yba ct.out (al U _).size) cZ.size;clear a5 cZ da b7 cX);go_roundw;case rel=>exact⟨n+1,A6,c6,by go_num,db,by simpa[eca]using e8.out,HN.out⟩
     case measure=>simp[intOf];omega
    ·obtain rfl:n=cs.length:=by omega
     go_wp2_with fail;go_meet;have h1:=HI.out.own;rw[List.take_length]at h1;refine⟨cs.map (·.name),A5,c5,j2,e2,p2,HI.out.gk,fU,?_,HI.out.rb,?_,HD.out⟩;·rw[Oca];exact HI.out.tb
     ·rw[Oca];exact h1
 case rest =>
 obtain⟨rs,A,c,j,e2,p2,hk,hj,hT,hR,O,hD⟩:=hcut;have HK:=kaa hk;have HT:=kaa hT;have HR:=kaa hR;have a6:=kaa O;have HD:=kaa hD;clear hk hT hR O hD a9 b3 bL bf av a3 HJ es ey eT eg;generalize wc=X at HK HT HR a6 ⊢;by_cases bV:e2=0
 ·subst bV;obtain⟨he,fX,hh⟩:e=0∧p2=0∧xF l i = .inl (rs,j):=by
   rcases HD.out with h|h;·exact⟨h.1,h.2.2.1,h.2.2.2⟩
   ·exact absurd rfl h.1
  subst he fX;have bs:i<l.length∧i<j:=nK hh;have HH:=kaa hh;clear HD hh;obtain⟨pl,p0,p1,p2,p3,p4,pf⟩:=HK.out.pg;have bX:=kaa (fun(u:World) (h:uh g w u)=>MK v l.length (l.flatMap cda) u (((HC.out u h).now (mba aX.out h.size))) Tf (AI l));go_upto_region 12 with(go_at_call 186;refine(bX.out _ HK.out.kp).mono ?_;rintro r w8 ⟨A8,c8,rfl,ao,bk⟩);have eY:=kaa bk;have b4:=Ti ao;obtain⟨gb,gE,cW,ea,eb⟩:=ao.form Tf;have cY:=Bp.own ao;rw[cW]at b4 cY;have d0:=kaa b4;simp only[bca,true_and]at cW;obtain⟨rfl,rfl⟩:=cW;have bh:=kaa (cY _ _ _ rfl).2;have ad:Hid (X.heap.size≤gb∧gb<w8.heap.size):=⟨ea,eb⟩;obtain⟨m,rfl⟩:∃ m,j=m+1:=⟨j - 1,by omega⟩;obtain⟨tb,ch,tc,bF,gT,gP,d8⟩:=(HC.out w (Aba _ _)).at_ Tf;have bZ:=kaa (HK.out.below bk);have bS:=kaa (HT.out.below bk);have bN:=kaa (HR.out.below bk);have dB:=kaa (Ih a6.out bk);have ht:=d8 w8 (bZ.out.kp.below (nba aX.out)) i bs.1;rw[← rj bs.1]at ht;obtain⟨b,off,c0,hv,_,fz,b8⟩:=Vi.at_ (l:=l) b4 Tf;simp only[bca,dda,eda,and_true,true_and]at hv;obtain⟨⟨rfl,rfl⟩,rfl⟩:=hv;have eh:=b8 m Tf;rw[paa]at eh;obtain⟨k0,k1,k2,k3⟩:=eh;have g0:=bh.out (m*4);have g1:=bh.out (m*4+1);have g2:=bh.out (m*4+2);have g3:=bh.out (m*4+3);obtain⟨q0,q1,q2,q3⟩:=ht;clear pl p0 p1 p2 p3 p4 pf b8 bX ea eb fz b4 cY bk ao;obtain⟨pl,p0,p1,p2,p3,p4,pf⟩:=bZ.out.pg;rw[bF]at p0;have gg:(0:Int)≤(i:Int):=Sba _;have gh:(i:Int)<(l.length:Int):=by omega
  have gl:(0:Int)≤(m:Int):=Sba _;have gs:(m:Int)<(l.length:Int):=by omega
  have gH:(m:Int)+1 - 1=(m:Int):=by omega
  have gL:Xca.wrap (m:Int)=(m:Int):=Yca _ Tf;go_still_tail 14,Vf;repeat still_step
  try refine wpStill_nil ?_
  change wpList _ _ _ _ _ (World.drew w8);have L:=dm (Gaa w8.heap.size w8);have J:=kaa bZ.out.drew;have a0:=kaa (bS.out.below L);have aZ:=kaa (bN.out.below L);have cT:=kaa (Ih dB.out L);have bg:=kaa (bi.below d0.out L);have a2:Hid (∀ j,w8.drew.frozen? ⟨gb,j,none⟩=false):=fun j=>(L.frozen (p:=⟨gb,j,none⟩) ad.out.2).trans (bh.out j);have b1:Hid (∀ k,(Value.slice A rs.length c).ownBlock=some k→k<gb):=fun k hk=>mba (a6.out.lt k hk).2 ad.out.1;have cx:Hid (w.heap.size+2≤gb∧gb<w8.drew.heap.size):=⟨yba HR.out.lt ad.out.1,ad.out.2⟩;have eU:=(L.cell (p:=⟨gb,_,none⟩) ad.out.2).trans k0;have eV:=(L.cell (p:=⟨gb,_,none⟩) ad.out.2).trans k1;have eW:=(L.cell (p:=⟨gb,_,none⟩) ad.out.2).trans k2;have eX:=(L.cell (p:=⟨gb,_,none⟩) ad.out.2).trans k3;clear k0 k1 k2 k3 g0 g1 g2 g3 q0 q1 q2 q3 pl p0 p1 p2 p3 p4 pf L bZ bS bN dB bh eY HT HR a6 d0 HK;generalize w8.drew=Y at J a0 aZ cT bg a2 cx eU eV eW eX ⊢;have g0:=a2.out (m*4);have g1:=a2.out (m*4+1);have g2:=a2.out (m*4+2);have g3:=a2.out (m*4+3);go_upto_region 13 with fail;have G:w.heap.size≠gb∧w.heap.size+1≠gb∧gb≠g∧w.heap.size≤gb:=by have:=cx.out.1;have:=aX.out;omega
  have af:=kaa ((((J.out.far G.2.2.2 G.2.2.1 (m*4) (.int .i64 (tk l i).kind)).far G.2.2.2 G.2.2.1 (m*4+1) (.string (vh (tk l i).text))).far G.2.2.2 G.2.2.1 (m*4+2) (.int .i64 (tk l i).n)).far G.2.2.2 G.2.2.1 (m*4+3) (.int .i64 (tk l i).pos));have a1:=kaa ((((a0.out.far G.1 (m*4) (.int .i64 (tk l i).kind)).far G.1 (m*4+1) (.string (vh (tk l i).text))).far G.1 (m*4+2) (.int .i64 (tk l i).n)).far G.1 (m*4+3) (.int .i64 (tk l i).pos));have bb:=kaa ((((aZ.out.far G.2.1 (m*4) (.int .i64 (tk l i).kind)).far G.2.1 (m*4+1) (.string (vh (tk l i).text))).far G.2.1 (m*4+2) (.int .i64 (tk l i).n)).far G.2.1 (m*4+3) (.int .i64 (tk l i).pos));have b2:=kaa (rn (x:=.int .i64 (tk l i).pos) (j:=m*4+3) (rn (x:=.int .i64 (tk l i).n) (j:=m*4+2) (rn (x:=.string (vh (tk l i).text)) (j:=m*4+1) (rn (x:=.int .i64 (tk l i).kind) (j:=m*4) cT.out b1.out) b1.out) b1.out) b1.out);have bf:=kaa (yI (l:=l) (m:=m) (tk l i) bg.out Tf a2.out);clear G eU eV eW eX g0 g1 g2 g3 J a0 aZ cT bg a2 cx ad d8;generalize eca _ _ _=Z at af a1 bb b2 bf ⊢;obtain⟨pl,p0,p1,p2,p3,p4,pf⟩:=af.out.pg;have ee:Qh l i [123]=true:=GO HH.out;have bI:=kaa (eH (l:=l) (o:=i) (k:=m+1) Tf hj ee);have aY:=kaa (fL (l.set m (tk l i)) (by simpa using hl) (fun t ht=>by
   rcases List.mem_or_eq_of_mem_set ht with h|h;·exact dd t h
   ·rw[h,rj bs.1];exact dd _ (dba bs.1)) (.slice (some ⟨gb,0,none⟩) l.length c8) (m:Nat) Z bf.out (HC.out Z af.out.kp).env)
  unfold aA at aY;rw[show m+1 - 1=m from rfl]at bI;have a7:Hid (kn l s pos i=match Yl l i (m+1)with|.inr e=>.inr e|.inl (x,t)=>.inl (⟨s,rs,x,pos⟩,t)):=by show _=_;rw[mz,HH.out]
  clear ee bf HH;cases a4:Yl l i (m+1)with
  |inl q =>
   obtain⟨xs,tt⟩:=q;have bT:=bI.out.1 xs tt a4;rw[bT]at aY;rw[a4]at a7;have eZ:=kaa a4;clear bT bI a4;go_upto_region 19 with(go_at_call 187;refine aY.out.mono ?_;rintro r w9 ⟨V,rfl,⟨I,b5,bE⟩,H⟩;obtain⟨A9,c9,rfl⟩:=yh bE.own);have b0:=kaa ((af.out.below H).set1 tt);have b0:=kaa (b0.out.far (aaa _) E.out.1 2 (.slice A9 I.length c9));have d2:=kaa ((((a1.out.below H).far E.out.1 1 (.int .i64 tt))).set2 (.slice A9 I.length c9));have cV:=kaa (((bb.out.below H).far E.out.2 1 (.int .i64 tt)).far (j:=2) (x:=.slice A9 I.length c9) (show w.heap.size+1≠w.heap.size by omega));have dD:=kaa (((xL (x:=⟨s,.slice A rs.length c,rs,.slice A9 I.length c9,I,pos⟩) (Ih b2.out H) bE bb.out.lt).setCell ⟨g,1,none⟩ (show g<w.heap.size+2 by have:=aX.out;omega) (.int .i64 tt)).setCell ⟨w.heap.size,2,none⟩ (show w.heap.size<w.heap.size+2 by omega) (.slice A9 I.length c9));have e5:=kaa b5;clear pl p0 p1 p2 p3 p4 pf;have p1:=(af.out.below H).pg.c1;have f6:=(af.out.below H).pg.fr 1;have t2:=((a1.out.below H).far E.out.1 1 (.int .i64 tt)).c2;have f9:=((a1.out.below H).far E.out.1 1 (.int .i64 tt)).fr 2;clear bE H b5;go_upto_region 20 with fail;clear p1 f6 t2 f9 af a1 bb b2 aY;generalize eca _ _ _=W at b0 d2 cV dD ⊢;obtain⟨_,t0,t1,t2,t3,tf⟩:=d2.out;obtain⟨_,r0,r1,r2,r3,rf⟩:=cV.out;have f0:=rf 0;have f1:=rf 1;have f2:=rf 2;have f3:=rf 3;go_wp2_with fail;have HF:=kaa ((((b0.out.far Tf E.out.2 0 (.string (vh s))).far Tf E.out.2 1 (.slice A rs.length c)).far Tf E.out.2 2 (.slice A9 I.length c9)).far Tf E.out.2 3 (.int .i64 pos));have aT:=cV.out.set4 (.string (vh s)) (.slice A rs.length c) (.slice A9 I.length c9) (.int .i64 pos);have hb:w.heap.size+1<w.heap.size+2:=by omega
   have dP:=kaa ((((dD.out.setCell ⟨w.heap.size+1,0,none⟩ hb (.string (vh s))).setCell ⟨w.heap.size+1,1,none⟩ hb (.slice A rs.length c)).setCell ⟨w.heap.size+1,2,none⟩ hb (.slice A9 I.length c9)).setCell ⟨w.heap.size+1,3,none⟩ hb (.int .i64 pos));generalize eca _ _ _=Q at HF aT dP ⊢;obtain⟨_,z0,z1,z2,z3,_⟩:=aT;refine bodyPost_ret (v:=.agg #[.string (vh s),.slice A rs.length c,.slice A9 I.length c9,.int .i64 pos]) yg rfl ?_;refine⟨⟨s,.slice A rs.length c,rs,.slice A9 I.length c9,I,pos⟩,A,A9,c,c9,tt,0,0,rfl,rfl,rfl,rfl,rfl,HF.out,uC eZ.out,.inl ⟨by trivial,rfl,rfl,?_,dP.out.mono (fun k _ h=>by have h':k<w.heap.size:=h;show k<w.heap.size+2;omega)⟩⟩;rw[a7.out,← e5.out];rfl
  |inr q =>
   obtain⟨e3,aU⟩:=q;obtain⟨f5,bT,d3,ep⟩:=bI.out.2 e3 aU a4;rw[bT]at aY;rw[a4]at a7;have dT:=kaa ep;clear bT bI a4 ep;rw[bF]at p0;have d4:(e3==0)=false:=by simpa using d3
   have d5:(e3 != 0)=true:=by rw[bne,d4];rfl
   have e4:=kaa (fun(u:World) (h:uh g w u)=>gv l Tf (l.length:Nat) (.slice (some ⟨tb,ch,none⟩) l.length tc) u (bF▸((HC.out u h).now (mba aX.out h.size))));go_upto_if 74 with(go_at_call 187;refine aY.out.mono ?_;rintro r w9 ⟨V,rfl,⟨I,b5,bE⟩,H⟩;obtain⟨A9,c9,rfl⟩:=yh bE.own);have J:=kaa (af.out.below H);have bS:=kaa (a1.out.below H);have bN:=kaa (bb.out.below H);clear pl p0 p1 p2 p3 p4 pf af a1 bb b2 aY bE b5 H;go_cut [12]from 75 to 84 (fun a wx=>a = .int .i64 aU∧Below w9.heap.size w9 wx);case first =>
    by_cases h6:e3=6
    ·subst h6;have b6:aU=Ch l (l.length:Nat):=by rw[dT.out,if_pos rfl]
     have e6:=kaa b6;clear b6 d4 d5;have p0:=J.out.pg.c0;rw[bF]at p0;go_upto_region 15 with fail;go_region_held3 (fun u=>u.cell? ⟨g,0,none⟩=some (.slice (some ⟨tb,ch,none⟩) l.length tc)) (first|exact fZ|exact J.out.drew.pg.c0.trans (congrArg some bF))
      (first|(go_at_call 87;(with_reducible refine(e4.out _ J.out.drew.kp).mono ?_);rintro r gV ⟨rfl,b9⟩;have fZ:=(J.out.drew.below b9).pg.c0.trans (congrArg some bF)))
     all_goals go_wp2_with fail;go_meet;exact⟨by rw[e6.out],bt (dm (Gaa _ _)) b9⟩
    ·have gF:(e3==6)=false:=by simpa using h6
     have b6:aU=f5:=by rw[dT.out,if_neg h6]
     subst b6;go_wp2_with fail;go_meet;exact⟨rfl,Gaa _ _⟩
   case rest =>
   obtain⟨rfl,a8⟩:=hcut;have aW:=kaa (J.out.below a8);have a0:=kaa (bS.out.below a8);have aZ:=kaa (bN.out.below a8);clear a8 J bS bN;generalize wc=W at aW a0 aZ ⊢;have p2:=aW.out.pg.c2;have f7:=aW.out.pg.fr 2;have p3:=(aW.out.set2 e3).pg.c3;have f8:=(aW.out.set2 e3).pg.fr 3;go_upto_region 18 with fail;have dA:=kaa ((aW.out.set2 e3).set3 aU);have d1:=kaa ((a0.out.far E.out.1 2 (.int .i64 e3)).far E.out.1 3 (.int .i64 aU));have cU:=kaa ((aZ.out.far E.out.2 2 (.int .i64 e3)).far E.out.2 3 (.int .i64 aU));clear p2 f7 p3 f8 aW a0 aZ;generalize eca _ _ _=W2 at dA d1 cU ⊢;obtain⟨_,t0,t1,t2,t3,tf⟩:=d1.out;obtain⟨_,r0,r1,r2,r3,rf⟩:=cU.out;have f0:=rf 0;have f1:=rf 1;have f2:=rf 2;have f3:=rf 3;go_wp2_with fail;have HF:=kaa ((((dA.out.far Tf E.out.2 0 (.string (vh s))).far Tf E.out.2 1 (.slice A rs.length c)).far Tf E.out.2 2 (.slice none 0 0)).far Tf E.out.2 3 (.int .i64 pos));have aT:=cU.out.set4 (.string (vh s)) (.slice A rs.length c) (.slice none 0 0) (.int .i64 pos);generalize eca _ _ _=Q at HF aT ⊢;obtain⟨_,z0,z1,z2,z3,_⟩:=aT;refine bodyPost_ret (v:=.agg #[.string (vh s),.slice A rs.length c,.slice none 0 0,.int .i64 pos]) yg rfl ?_;exact⟨⟨s,.slice A rs.length c,rs,.slice none 0 0,[],pos⟩,A,none,c,0,m+1,e3,aU,rfl,rfl,rfl,rfl,rfl,HF.out,hj,.inr ⟨d3,fun _=>a7.out,fun h=>absurd Mg h⟩⟩
 ·have G:(e2==0)=false:=by simpa using bV
  have gB:(e2 != 0)=true:=by rw[bne,G];rfl
  obtain⟨pl,p0,p1,gU,p3,p4,pf⟩:=HK.out.pg;obtain⟨tl,t0,t1,t2,t3,tf⟩:=HT.out;obtain⟨rl,r0,r1,r2,r3,rf⟩:=HR.out;have f0:=rf 0;have f1:=rf 1;have f2:=rf 2;have f3:=rf 3;go_wp2_with fail;have HF:=kaa ((((HK.out.far Tf E.out.2 0 (.string (vh s))).far Tf E.out.2 1 (.slice A rs.length c)).far Tf E.out.2 2 (.slice none 0 0)).far Tf E.out.2 3 (.int .i64 pos));have aT:=HR.out.set4 (.string (vh s)) (.slice A rs.length c) (.slice none 0 0) (.int .i64 pos);generalize eca _ _ _=Z at HF aT ⊢;obtain⟨_,z0,z1,z2,z3,_⟩:=aT;refine bodyPost_ret (v:=.agg #[.string (vh s),.slice A rs.length c,.slice none 0 0,.int .i64 pos]) yg rfl ?_;refine⟨⟨s,.slice A rs.length c,rs,.slice none 0 0,[],pos⟩,A,none,c,0,j,e2,p2,rfl,rfl,rfl,rfl,rfl,HF.out,hj,.inr ⟨bV,fun he=>?_,fun he=>?_⟩⟩
  ·rcases HD.out with h|h;·exact absurd h.2.1 bV
   ·rw[mz,h.2.1 he]
  ·rcases HD.out with h|h;·exact absurd h.2.1 bV
   ·exact h.2.2 he
theorem Gv:(Tryz.prog.info? 41).map (fun i=>(i.zero,i.size,i.bytes))=some (some (.agg #[.string ⟨#[]⟩,.slice none 0 0,.slice none 0 0,.int .i64 0]),4,72):=by kernel_rfl
theorem Xu{l:List xh}{s:List UInt8}{p:Int}{i j:Nat}{t:Jt}(h:kn l s p i = .inl (t,j)):i<j:=by
 rw[mz]at h
 cases E:xF l i with
 |inr e=>rw[E]at h;cases h
 |inl q =>
  obtain⟨rs,k⟩:=q
  have L:=nK E
  rw[E]at h
  simp only at h
  unfold Yl at h
  cases hr:Ij (ej (mi l 12) false l) l (l.length+1 - k) k with
  |inr e=>rw[hr]at h;cases h
  |inl J =>
   obtain⟨x,I⟩:=J
   have M:=(Lt (Nq (fun b=>Zq l 12 b) false) _ _ _ _ hr).1
   rw[hr]at h
   simp only at h
   cases G:Oh l [125] I with
   |inr e=>rw[G]at h;cases h
   |inl H =>
    have O:=yj (u:=H.1) (j:=H.2) G
    rw[G]at h
    simp only at h
    by_cases A:40<x.length
    ·rw[if_pos A]at h;cases h
    ·rw[if_neg A]at h;cases h;omega
theorem bD(U:World)(s:List UInt8)(V W:Value)(p:Int):bi (U.alloc (.cells #[.string (vh s),V,W,.int .i64 p] 41)) (.slice (some ⟨U.heap.size,0,none⟩) 1 1) 4 1 [.string (vh s),V,W,.int .i64 p] :=
 zk U [.string (vh s),V,W,.int .i64 p] 41 4 1 1 rfl (aaa _)
theorem fP{w:World}{h:Nat}{a b c d:Value}(k:TB w h a b c d)(x y:Value):TB ((w.setCell ⟨h,0,none⟩ x).setCell ⟨h,3,none⟩ y) h x b c y :=
 ⟨jk (jk k.lt),wh (ui k.c0 (k.fr 0)) Uf,wh (wh k.c1 Uf) Uf,wh (wh k.c2 Uf) Uf,ui (wh k.c3 Uf) (di k.fr _),di (di k.fr)⟩
theorem DH(l:List xh)(hl:l.length≤100000)(a2:∀ t∈l,t.text.length≤1000000)(g:Nat)(v:Value)(w0 w:World)(i:Nat)(o:Nat→Value)(q:qj)(h:RP l g v w0 w (i+1) 0 0 o q)(n:Int)(hn:n=(tk l i).pos):Calls maa 84 #[.pointer (some ⟨g,0,none⟩),.int .i64 n] w (Et 3 l g v w0 w o i q):=by
 obtain⟨i0,bh,bI,bL,bN⟩:=info_parts Gv;have bR:=kaa hn;clear hn;obtain⟨A0,c0,hO⟩:=yh (h.rows.row 3 Uf);have HH:=kaa h;have aV:=kaa h.lt;have hq:q.n 3≤i+1:=h.cnt 3 Uf;have bF:=h.le;have HB:Hid (q.n 3+1≤maxLen∧(q.n 3+1)*72≤140737488355328):=by show _∧_;unfold maxLen;constructor<;>omega
 have ad:=kaa (fun(u:World) (hu:GK w g v (i+1:Nat) 0 0 o u)=>zF l hl a2 g v o (i+1) Tf 0 u hu.pg ((h.ctx.keep h.gk.kp h.lt).keep hu.kp h.gk.pg.lt));have bT:¬ q.n 3<0:=by omega
 clear h;go_enter Tryz.func84,Tryz.ntmps84;go_upto_region 1 with fail;generalize hX:w.alloc _=X;have M:Hid (GK w g v (i+1:Nat) 0 0 o X):=by subst hX;exact(gda HH.out.gk.pg).alloc _
 have af:Hid (TB X w.heap.size (.string ⟨#[]⟩) (.slice none 0 0) (.slice none 0 0) (.int .i64 0)):=by exact Oc
 clear hX;have H:Hid (w.heap.size≠g):=by have:=HH.out.gk.pg.lt;show _≠_;omega
 go_cut [5]from 5 to 11 (fun _ wx=>∃ (s:List UInt8) (ps:Int) (L:Nat) (e1 p1:Int),TB wx w.heap.size (.string (vh s)) (.slice none 0 0) (.slice none 0 0) (.int .i64 ps)∧GK w g v L e1 p1 o wx∧i+1≤L∧L≤l.length ∧
  ((e1=0∧p1=0∧Th l (i+1) = .inl (s,L)∧ps=(tk l (i+1)).pos)∨(¬ e1=0∧Th l (i+1) = .inr (e1,p1))))
 case first =>
  have I:=kaa (ad.out X M.out)
  clear ad
  unfold Wr at I
  cases E:Th l (i+1)with
  |inl r =>
   obtain⟨s,L⟩:=r;rw[E]at I;have hg:i+1≤L∧L≤l.length:=by have:=Si E;omega
   generalize a1:(tk l (i+1)).pos=ps at I;have bb:=kaa a1;have HN:=kaa E;clear E a1;go_wp2_with (go_at_call 144;refine I.out.mono ?_;rintro r w2 ⟨rfl,h2⟩;have A:=af.out.kp h2.kp H.out;have t0:=A.c0;have t3:=A.c3;have f0:=A.fr 0;have f3:=A.fr 3);go_meet;exact⟨s,ps,L,0,0,fP A _ _,((M.out.trans h2).far (aaa _) H.out _ _).far (aaa _) H.out _ _,by omega,by omega,.inl ⟨rfl,rfl,HN.out,bb.out.symm⟩⟩
  |inr r =>obtain⟨e1,p1⟩:=r;rw[E]at I;have aT:=kaa (FB E);have HN:=kaa E;clear E;go_wp2_with (go_at_call 144;refine I.out.mono ?_;rintro r w2 ⟨rfl,h2⟩;have A:=af.out.kp h2.kp H.out;have t0:=A.c0;have t3:=A.c3;have f0:=A.fr 0;have f3:=A.fr 3);go_meet;exact⟨[],0,i+1,e1,p1,fP A _ _,((M.out.trans h2).far (aaa _) H.out _ _).far (aaa _) H.out _ _,aaa _,bF,.inr ⟨aT.out,HN.out⟩⟩
 case rest =>
 obtain⟨s,ps,L,e1,p1,hT,Q,bs,aY,G⟩:=hcut;generalize wc=Y at hT Q ⊢;have a9:=kaa Q.kp;have J:=kaa (HH.out.step Q aY bs);have bf:Hid (w0.heap.size≤Y.heap.size):=J.out.gk.kp.size;have HT:=kaa hT;have HN:=kaa G;have aU:=kaa (BF l hl a2 g v o L aY e1 p1 (fun he=>by rcases G with h|h;exact h.2.1;exact absurd he h.1) s ps Y.drew J.out.gk.pg.drew ((J.out.ctx.keep J.out.gk.kp aV.out).keep (Aba g Y).drew J.out.gk.pg.lt));unfold CE at aU;clear hT Q G M af ad;have c4:Y.cell? ⟨g,7,none⟩=some (.slice A0 (q.n 3) c0):=(J.out.gk.pg.co 3 Uf).trans (congrArg some hO);have f4:=J.out.gk.pg.fr 7;obtain⟨tl,t0,t1,t2,t3,tf⟩:=HT.out;go_upto_region 2 with fail;go_region_law
  (first|(go_simp;go_at_call 145;refine aU.out.mono ?_;rintro r w5 ⟨x,A1,A2,c1,c2,j2,e2,p2,rfl,a3,a5,a7,a8,O,bt,hd⟩;obtain⟨xn,xr,xs,xb,xp,xq⟩:=x;simp only at a3 a5 a7 a8;subst a3 a5 a7 a8;have a4:w5.cell? ⟨g,7,none⟩=some (.slice A0 (q.n 3) c0):=(O.pg.co 3 Uf).trans (congrArg some hO);have bS:=((al w5 (.cells #[.string (vh xn),.slice A1 xs.length c1,.slice A2 xp.length c2,.int .i64 xq] 41)).cell (p:=⟨g,7,none⟩) O.pg.lt).trans a4;have aW:=(J.out.rows.below (dm (Gaa _ _))).step O.kp.size (fun k bE hn=>O.kp.block k bE hn);have Z:∀ X,Below w5.heap.size w5 X→X.ownsRow w0.heap.size 41 4 (.slice A0 (q.n 3) c0) (q.n 3) (q.cs 3):=fun X hX=>(by have:=(aW.below hX).row 3 Uf;rw[hO]at this;exact this))|((refine Fl jg _ _ 24 jg w0.heap.size 41 i0 _ 4 72 Tryz.underlying24 bh bI bL bN rfl Uf (.slice A0 (q.n 3) c0) (q.n 3) (q.cs 3) jg (Z _ (al w5 _)) (.slice (some ⟨w5.heap.size,0,none⟩) 1 1) 1 [.string (vh xn),.slice A1 xs.length c1,.slice A2 xp.length c2,.int .i64 xq] jg (bD w5 xn _ _ xq) Cg HB.out.1 HB.out.2 (yba bf.out (yba O.kp.size (al w5 _).size)) ?_;intro A6 c6 w6 av hg6 hat6;have aX:=(O.pg.below (al w5 _)).grown hg6 (jo (Z w5 (Gaa _ _)) aV.out);have a6:w6.cell? ⟨g,7,none⟩=some (.slice A0 (q.n 3) c0):=(aX.co 3 Uf).trans (congrArg some hO);have f6:=aX.fr 7))|fail)
 all_goals
  refine bodyPost_end (results_none rfl _ _ _) rfl ?_;refine ft (q':={ q with thrs:=q.thrs++[(⟨xn,.slice A1 xs.length c1,xs,.slice A2 xp.length c2,xp,xq⟩:Tv)] }) J.out a9.out O (al w5 _) Uf (by simpa[qj.n,qj.cs,CK,lI,Tv.cells]using av) lh dh bt ?_;rcases hd with⟨h1,h2,bg,h3,h4⟩|⟨h1,h3,h4⟩
  ·have h5:=Xu h3;refine .inl ⟨h2,bg,by omega,by simp only[qj.n,xaa,jaa,Xaa]at hq ⊢;omega,?_,?_,?_⟩
   ·unfold Qi;rcases HN.out with G|G;·rw[if_neg Uf,if_neg Uf,if_neg Uf,if_pos rfl,G.2.2.1];simp only;rw[← G.2.2.2,h3];simp[qj.p]
    ·exact absurd h1 G.1
   ·intro k O ao;match k,O,ao with
    |0,_,_=>exact⟨rfl,rfl⟩
    |1,_,_=>exact⟨rfl,rfl⟩
    |2,_,_=>exact⟨rfl,rfl⟩
    |3,_,ao=>exact absurd rfl ao
    |4,_,_=>exact⟨rfl,rfl⟩
    |5,_,_=>exact⟨rfl,rfl⟩
   ·have a0:=(aW.below (al w5 (.cells #[.string (vh xn),.slice A1 xs.length c1,.slice A2 xp.length c2,.int .i64 xq] 41))).deep;have aZ:=(h4.below (al w5 (.cells #[.string (vh xn),.slice A1 xs.length c1,.slice A2 xp.length c2,.int .i64 xq] 41))).mono (S':=Vm (fun k=>k=g) o) (fun k _ h=>by
     rcases h with h|⟨j',bk,h⟩;·have h':k=g:=h;rw[h'];exact J.out.gk.pg.lt
     ·exact((J.out.rows.row j' bk).lt k h).2)
    exact(a0.and aZ).imp (fun u hu=>⟨hu.1.lines,fun x hx=>(by rcases vca.1 hx with hx|hx;exact hu.1.thrs x hx;rw[ida.1 hx];exact hu.2),hu.1.rcv,hu.1.clms⟩)
  ·refine .inr ⟨h1,?_⟩;unfold Qi;rw[if_neg Uf,if_neg Uf,if_neg Uf,if_pos rfl];rcases HN.out with G|G;·rw[G.2.2.1];simp only;rw[← G.2.2.2,h3 G.1]
   ·rw[G.2,(h4 G.1).1,(h4 G.1).2]
theorem VD(l:List xh)(hl:l.length≤100000)(bg:∀ t∈l,t.text.length≤1000000)(g:Nat)(v:Value)(w0 w:World)(i:Nat)(o:Nat→Value)(q:qj)(h:RP l g v w0 w (i+1) 0 0 o q)(n:Int)(hn:n=(tk l i).pos):Calls maa 85 #[.pointer (some ⟨g,0,none⟩),.int .i64 n] w (Et 4 l g v w0 w o i q):=by
 obtain⟨i0,aU,bk,bs,bt⟩:=info_parts Gv;have af:=kaa hn;clear hn;obtain⟨Z,c0,hO⟩:=yh (h.rows.row 4 Uf);have HH:=kaa h;have ad:=kaa h.lt;have hq:q.n 4≤i+1:=h.cnt 4 Uf;have bN:=h.le;have HB:Hid (q.n 4+1≤maxLen∧(q.n 4+1)*72≤140737488355328):=by show _∧_;unfold maxLen;constructor<;>omega
 have a7:=kaa (fun(u:World) (G:GK w g v (i:Nat) 0 0 o u)=>kq l hl g v o i 0 0 u G.pg ((h.ctx.keep h.gk.kp h.lt).keep G.kp h.gk.pg.lt));have c4:w.cell? ⟨g,8,none⟩=some (.slice Z (q.n 4) c0):=(h.gk.pg.co 4 Uf).trans (congrArg some hO);have f4:=h.gk.pg.fr 8;by_cases hz:0<q.rcv.length
 ·have bE:(0:Int)<(q.n 4:Int):=by have:q.n 4=q.rcv.length:=rfl;omega
  have a3:Hid (Qi 4 l q.p i = .inr (cj l i 5)):=by show _=_;unfold Qi;rw[if_neg Uf,if_neg Uf,if_neg Uf,if_neg Uf,if_pos rfl,if_neg (fun M=>by have bh:q.rcv.map Tv.t=[]:=M;rw[List.map_eq_nil_iff.1 bh]at hz;cases hz)]
  have p1:=h.gk.pg.c1;have bR:=h.gk.pg.fr 1;have av:=kaa ((gda h.gk.pg).set1 (i:Int));have bI:((i:Int)+1) - 1=(i:Int):=by omega
  have bL:Xca.wrap (i:Int)=(i:Int):=Yca _ Tf;have aU:(0:Int)≤(i:Int):=Sba _;have a1:=kaa h.gk;clear h;go_enter Tryz.func85,Tryz.ntmps85;go_wp2_with (go_at_call 24;refine(a7.out _ av.out).mono ?_;rintro r w6 ⟨rfl,h6⟩);first|refine bodyPost_end (results_none rfl _ _ _) rfl ?_|refine bodyPost_ret (results_none rfl _ _ _) rfl ?_
  have e1:(wE l i 0 5,wP l i 0 0)=cj l i 5:=by unfold wE wP cj;rw[if_pos rfl,if_pos rfl]
  refine⟨rfl,i,wE l i 0 5,wP l i 0 0,o,q,.inr ⟨?_,h6.pg,((a1.out.trans av.out).trans h6).kp.below (nba ad.out),by rw[e1];exact a3.out⟩⟩;have:=Zl l i 5 Uf;rw[show wE l i 0 5=(cj l i 5).1 from congrArg Prod.fst e1];omega
 ·have bE:¬ (0:Int)<(q.n 4:Int):=by have:q.n 4=q.rcv.length:=rfl;omega
  have I:Hid (q.rcv=[]):=List.eq_nil_of_length_eq_zero Tf;have H3:=HH;have a2:=kaa (Aba g w);have a5:Hid (w0.heap.size≤w.heap.size):=h.gk.kp.size;have H:=kaa (BF l hl bg g v o (i+1) h.le 0 0 (fun _=>rfl) [] n w.drew h.gk.pg.drew ((h.ctx.keep h.gk.kp h.lt).keep (Aba g w).drew h.gk.pg.lt));rw[show vh []=(⟨#[]⟩:ByteArray)from rfl]at H;unfold CE at H;clear h hz;go_enter Tryz.func85,Tryz.ntmps85;go_upto_region 3 with fail;go_region_law
   (first|(go_simp;go_at_call 145;refine H.out.mono ?_;rintro r w5 ⟨x,A1,A2,c1,c2,j2,e2,p2,rfl,aX,aY,aZ,a0,A,bb,hd⟩;obtain⟨xn,xr,Y,xb,O,Q⟩:=x;simp only at aX aY aZ a0;subst aX aY aZ a0;have a4:w5.cell? ⟨g,8,none⟩=some (.slice Z (q.n 4) c0):=(A.pg.co 4 Uf).trans (congrArg some hO);have bF:=((al w5 (.cells #[.string (vh []),.slice A1 Y.length c1,.slice A2 O.length c2,.int .i64 Q] 41)).cell (p:=⟨g,8,none⟩) A.pg.lt).trans a4;have ao:=(H3.out.rows.below (dm (Gaa _ _))).step A.kp.size (fun k bf hn=>A.kp.block k bf hn);have E:∀ X,Below w5.heap.size w5 X→X.ownsRow w0.heap.size 41 4 (.slice Z (q.n 4) c0) (q.n 4) (q.cs 4):=fun X hX=>(by have:=(ao.below hX).row 4 Uf;rw[hO]at this;exact this))|((refine Fl jg _ _ 24 jg w0.heap.size 41 i0 _ 4 72 Tryz.underlying24 aU bk bs bt rfl Uf (.slice Z (q.n 4) c0) (q.n 4) (q.cs 4) jg (E _ (al w5 _)) (.slice (some ⟨w5.heap.size,0,none⟩) 1 1) 1 [.string (vh []),.slice A1 Y.length c1,.slice A2 O.length c2,.int .i64 Q] jg (bD w5 [] _ _ Q) Cg HB.out.1 HB.out.2 (yba a5.out (yba A.kp.size (al w5 _).size)) ?_;intro A6 c6 w6 L hg6 hat6;have aT:=(A.pg.below (al w5 _)).grown hg6 (jo (E w5 (Gaa _ _)) ad.out);have a6:w6.cell? ⟨g,8,none⟩=some (.slice Z (q.n 4) c0):=(aT.co 4 Uf).trans (congrArg some hO);have f6:=aT.fr 8))|fail)
  all_goals
   refine bodyPost_end (results_none rfl _ _ _) rfl ?_;refine ft (q':={ q with rcv:=q.rcv++[(⟨[],.slice A1 Y.length c1,Y,.slice A2 O.length c2,O,Q⟩:Tv)] }) H3.out a2.out A (al w5 _) Uf (by simpa[qj.n,qj.cs,CK,lI,Tv.cells]using L) lh dh bb ?_;rcases hd with⟨h1,h2,a8,h3,h4⟩|⟨h1,h3,h4⟩
   ·have h5:=Xu h3;refine .inl ⟨h2,a8,by omega,by simp only[qj.n,xaa,jaa,Xaa]at hq ⊢;omega,?_,?_,?_⟩;·unfold Qi;rw[if_neg Uf,if_neg Uf,if_neg Uf,if_neg Uf,if_pos rfl,if_pos (by show q.rcv.map Tv.t=[];rw[I.out];rfl),← af.out,h3];simp[qj.p,I.out]
    ·intro k A J;match k,A,J with
     |0,_,_=>exact⟨rfl,rfl⟩
     |1,_,_=>exact⟨rfl,rfl⟩
     |2,_,_=>exact⟨rfl,rfl⟩
     |3,_,_=>exact⟨rfl,rfl⟩
     |4,_,J=>exact absurd rfl J
     |5,_,_=>exact⟨rfl,rfl⟩
    ·have aW:=(ao.below (al w5 (.cells #[.string (vh []),.slice A1 Y.length c1,.slice A2 O.length c2,.int .i64 Q] 41))).deep;have aV:=(h4.below (al w5 (.cells #[.string (vh []),.slice A1 Y.length c1,.slice A2 O.length c2,.int .i64 Q] 41))).mono (S':=Vm (fun k=>k=g) o) (fun k _ h=>by
      rcases h with h|⟨j',a9,h⟩;·have h':k=g:=h;rw[h'];exact H3.out.gk.pg.lt
      ·exact((H3.out.rows.row j' a9).lt k h).2)
     exact(aW.and aV).imp (fun u G=>⟨G.1.lines,G.1.thrs,fun x M=>(by rcases vca.1 M with M|M;exact G.1.rcv x M;rw[ida.1 M];exact G.2),G.1.clms⟩)
   ·refine .inr ⟨h1,?_⟩;unfold Qi;rw[if_neg Uf,if_neg Uf,if_neg Uf,if_neg Uf,if_pos rfl,if_pos (by show q.rcv.map Tv.t=[];rw[I.out];rfl),← af.out,h3 rfl]
theorem dH(l:List xh)(i:Nat):(∃ x j,Ri l i = .inl (x,j)∧ij l i=(x,(j:Int),0,0))∨∃ e p,Ri l i = .inr (e,p)∧¬ e=0∧(ij l i).2.2.1=e∧(ij l i).2.2.2=p:=by
 have I:ij l i=match Dj (ti l 12) l 5 i with
   | .inr (e,p)=>([],0,e,p)
   | .inl (x,t)=>if 12<x.deep then ([],0,7,(tk l i).pos)else if 40<x.flat.length then ([],0,2,(tk l i).pos)else (x.flat,(t:Int),0,0):=by
  unfold ij;rw[if_neg Tf];rfl
 by_cases A:(ij l i).2.2.1=0
 ·left;refine⟨(ij l i).1,(ij l i).2.1.toNat,if_pos A,?_⟩;rw[I]at A ⊢;cases hr:Dj (ti l 12) l 5 i with
  |inr q =>obtain⟨e,p⟩:=q;rw[hr]at A;have:=(Nk (Kk l 12) 5).bad _ _ _ hr;have H:e=0:=A;omega
  |inl q =>
   obtain⟨x,t⟩:=q;rw[hr]at A;simp only at A ⊢;by_cases E:12<x.deep;·rw[if_pos E]at A;exact absurd A (show ¬ (7:Int)=0 by decide)
   ·rw[if_neg E]at A ⊢;by_cases G:40<x.flat.length;·rw[if_pos G]at A;exact absurd A (show ¬ (2:Int)=0 by decide)
    ·rw[if_neg G];simp
 ·exact .inr ⟨_,_,if_neg A,A,rfl,rfl⟩
theorem mH{S:Nat→Prop}{w:World}{v:Value}{size n:Nat}{L:List Value}(h:bi w v size n L)(Y:∀ H m c,v = .slice (some H) m c→¬ S H.block):Ok S w (fun u=>bi u v size n L):=fun w' O Q=>by obtain⟨hl,A,c,J,Z,hf⟩:=h;refine⟨hl,A,c,J,Z,fun M=>?_⟩;obtain⟨b,off,I,G,E⟩:=hf M;exact⟨b,off,I,mba G O,fun j u hj=>(Gca (a:=⟨b,off+j,none⟩) (Q b G (Y ⟨b,off,none⟩ n c (by rw[J,I])))).trans (E j u hj)⟩
theorem oC:(Tryz.prog.info? 50).map (fun i=>(i.zero,i.size,i.bytes))=some (some (.agg #[.slice none 0 0,.int .i64 0]),2,32):=by kernel_rfl
theorem EH(l:List xh)(hl:l.length≤100000)(bt:∀ t∈l,t.text.length≤1000000)(g:Nat)(v:Value)(w0 w:World)(i:Nat)(o:Nat→Value)(q:qj)(h:RP l g v w0 w (i+1) 0 0 o q)(n:Int)(hn:n=(tk l i).pos):Calls maa 86 #[.pointer (some ⟨g,0,none⟩),.int .i64 n] w (Et 5 l g v w0 w o i q):=by
 obtain⟨i0,bs,bE,bF,bI⟩:=info_parts oC;have a9:=kaa hn;clear hn;obtain⟨A0,c0,hO⟩:=yh (h.rows.row 5 Uf);have HH:=kaa h;have aV:=kaa h.lt;have hq:q.n 5≤i+1:=h.cnt 5 Uf;have bR:=h.le;have HB:Hid (q.n 5+1≤maxLen∧(q.n 5+1)*32≤140737488355328):=by show _∧_;unfold maxLen;constructor<;>omega
 have a1:=kaa (fun(u:World) (hu:uh g w u)=>(h.ctx.keep h.gk.kp h.lt).keep hu h.gk.pg.lt);have L:=kaa (gda h.gk.pg);have G:=kaa (FC l hl bt v (i+1:Nat) w.drew ((a1.out _ L.out.drew.kp).now L.out.drew.pg.lt) (a1.out _ L.out.drew.kp).env);unfold Em at G;obtain⟨pl,p0,p1,p2,p3,p4,pf⟩:=h.gk.pg;have M:Hid (Qi 5 l q.p i=match Ri l (i+1)with|.inr e=>.inr e|.inl (x,k)=>match Oh l [59] k with|.inr e=>.inr e|.inl (_,t)=>.inl ({ q.p with clms:=q.p.clms++[⟨x,(tk l i).pos⟩] },t)):=by
  show _=_
  unfold Qi
  rw[if_neg Uf,if_neg Uf,if_neg Uf,if_neg Uf,if_neg Uf]
  cases Ri l (i+1)with
  |inr e=>rfl
  |inl r=>cases Oh l [59] r.2<;>rfl
 have Q:((i+1:Nat):Int)=(i:Int)+1:=by omega
 rcases dH l (i+1)with⟨x,j,hx,av⟩|⟨e,p,hx,he,a3,a5⟩
 ·rw[av,Q]at G;rw[hx]at M;have hg:=Mj hx;have hj:j≤l.length∧i+1<j:=⟨hg.2.1,hg.1⟩;clear h hx av hg;go_enter Tryz.func86,Tryz.ntmps86;go_upto_region 1 with fail;go_region_held3 (fun u=>u.cell? ⟨g,0,none⟩=some v∧u.cell? ⟨g,1,none⟩=some (.int .i64 (i+1:Nat))) (first|exact⟨I.pg.c0,I.pg.c1⟩|exact⟨L.out.drew.pg.c0,L.out.drew.pg.c1⟩)
   (first|(go_at_call 146;(with_reducible refine G.out.mono ?_);rintro r w5 ⟨V,rfl,Z,aX,af,a0⟩;have I:=L.out.drew.below aX;obtain⟨A,c,rfl,bN⟩:=Wh.shape Z))
  have a2:∀ ad m c2,Value.slice A x.length c = .slice (some ad) m c2→¬ Vm (fun k=>k=g) o ad.block:=fun ad m c2 hv hR=>by
   have h0:w.heap.size≤ad.block:=af ad m c2 hv;rcases hR with h|⟨k,hk,h⟩;·have h':ad.block=g:=h;omega
   ·have:=((HH.out.rows.row k hk).lt _ h).2;omega
  have aZ:=(mH Z a2).setCell ⟨g,1,none⟩ (.inl rfl) (.int .i64 j);have HQ:=kaa (L.out.trans (I.set1 (j:Int)));have s1:=I.pg.c1;have bS:=I.pg.fr 1;clear I Z af a0;go_upto_region 5 with fail;generalize w5.setCell ⟨g,1,none⟩ (.int .i64 j)=Y at aZ HQ ⊢;have H3:=kaa (HH.out.step HQ.out hj.1 Tf);have bh:=HQ.out.pg.lt;have a8:=kaa aZ;have bg:Hid (w0.heap.size≤Y.heap.size):=H3.out.gk.kp.size;have E:Hid (Below Y.heap.size Y (Y.alloc (.cells #[.slice A x.length c,.int .i64 n] 50))):=al Y _;have a4:Y.cell? ⟨g,9,none⟩=some (.slice A0 (q.n 5) c0):=(HQ.out.pg.co 5 Uf).trans (congrArg some hO);have bL:=(E.out.cell (p:=⟨g,9,none⟩) bh).trans a4;have aT:Hid ((Y.alloc (.cells #[.slice A x.length c,.int .i64 n] 50)).ownsRow w0.heap.size 50 2 (.slice A0 (q.n 5) c0) (q.n 5) (q.cs 5)):=(by have:=(H3.out.rows.below E.out).row 5 Uf;rw[hO]at this;exact this);have bf:Hid (bi (Y.alloc (.cells #[.slice A x.length c,.int .i64 n] 50)) (.slice (some ⟨Y.heap.size,0,none⟩) 1 1) 2 1 [.slice A x.length c,.int .i64 n]):=zk Y [.slice A x.length c,.int .i64 n] 50 2 1 1 rfl (aaa _);have bb:Hid (∀ (w6:World) (H:Option Addr) (c6:Nat),w6.ownsRow w0.heap.size 50 2 (.slice H (q.n 5+1) c6) (q.n 5+1) (q.cs 5++[.slice A x.length c,.int .i64 n])→(Y.alloc (.cells #[.slice A x.length c,.int .i64 n] 50)).grownBy w6 (o 5).ownBlock→((Value.slice H (q.n 5+1) c6).ownBlock=(o 5).ownBlock∨(Value.slice H (q.n 5+1) c6).ownBlock=some (Y.alloc (.cells #[.slice A x.length c,.int .i64 n] 50)).heap.size) →
    RP l g v w0 (w6.setCell ⟨g,9,none⟩ (.slice H (q.n 5+1) c6)) j 0 0 (fp o 5 (.slice H (q.n 5+1) c6)) { q with clms:=q.clms++[(⟨.slice A x.length c,⟨x,n⟩⟩:Kv)] }):=by
   intro w6 H c6 h1 h2 h3
   refine H3.out.push (j:=5) E.out Uf (by simpa[qj.n,qj.cs,CK,lI,Kv.cells]using h1) h2 h3 ?_ ?_ (by simp only[qj.n,xaa,jaa,Xaa]at hq ⊢;omega)
   ·intro k hk aY;match k,hk,aY with
    |0,_,_=>exact⟨rfl,rfl⟩
    |1,_,_=>exact⟨rfl,rfl⟩
    |2,_,_=>exact⟨rfl,rfl⟩
    |3,_,_=>exact⟨rfl,rfl⟩
    |4,_,_=>exact⟨rfl,rfl⟩
    |5,_,aY=>exact absurd rfl aY
   ·exact(((H3.out.rows.below E.out).deep).and (a8.out.below E.out)).imp (fun u hu=>⟨hu.1.lines,hu.1.thrs,hu.1.rcv,fun y hy=>(by rcases vca.1 hy with hy|hy;exact hu.1.clms y hy;rw[ida.1 hy];exact hu.2)⟩)
  have a7:Hid (∀ (w6:World) (H:Option Addr) (c6:Nat),(Y.alloc (.cells #[.slice A x.length c,.int .i64 n] 50)).grownBy w6 (o 5).ownBlock→((Value.slice H (q.n 5+1) c6).ownBlock=(o 5).ownBlock∨(Value.slice H (q.n 5+1) c6).ownBlock=some (Y.alloc (.cells #[.slice A x.length c,.int .i64 n] 50)).heap.size) →
    (w.heap.size≤(w6.setCell ⟨g,9,none⟩ (.slice H (q.n 5+1) c6)).heap.size∧∀ k,k<w.heap.size→¬ Vm (fun k=>k=g) o k→(w6.setCell ⟨g,9,none⟩ (.slice H (q.n 5+1) c6)).heap[k]? = w.heap[k]?)∧∀ k,Vm (fun k=>k=g) (fp o 5 (.slice H (q.n 5+1) c6)) k→Vm (fun k=>k=g) o k∨w.heap.size≤k):=by
   intro w6 H c6 h2 h3
   have s1:=HQ.out.kp.size
   have s2:=E.out.size
   have s3:=h2.size
   refine⟨⟨by simp[eca];omega,fun k hk hn=>?_⟩,eF Uf (h3.imp id fun e=>⟨_,e,by omega⟩)⟩
   exact(xca _ _ _ _ (fun e=>hn (.inl e))).trans ((h2.block k Tf (fun e=>hn (.inr ⟨5,by decide,e.symm⟩))).trans ((E.out.block k Tf).trans (HQ.out.kp.block k hk (fun e=>hn (.inl e)))))
  clear aZ G;go_wp2_with (first
   |(at_builtin;refine Wk rfl _ _ 25 rfl w0.heap.size 50 i0 _ 2 32 Tryz.underlying25 bs bE bF bI rfl Uf (.slice A0 (q.n 5) c0) (q.n 5) (q.cs 5) rfl aT.out (.slice (some ⟨Y.heap.size,0,none⟩) 1 1) 1 [.slice A x.length c,.int .i64 n] rfl bf.out Cg HB.out.1 HB.out.2 (yba bg.out E.out.size) ?_;intro v6 w6 J bk ao O;obtain⟨H,c6,rfl⟩:=yh J;have aW:=(HQ.out.pg.below E.out).grown ao (jo aT.out aV.out);have a6:w6.cell? ⟨g,9,none⟩=some (.slice A0 (q.n 5) c0):=(aW.co 5 Uf).trans (congrArg some hO);have f6:=aW.fr 9;have aU:=kaa (a7.out w6 H c6 (by rw[hO];exact ao) (by rw[hO];exact O));have H6:=kaa (bb.out w6 H c6 J (by rw[hO];exact ao) (by rw[hO];exact O));clear J bk ao O aW)
   |(go_at_call 147;refine(Nz l hl [59] g v _ j Tf 0 0 _ H6.out.gk.pg (H6.out.ctx.keep H6.out.gk.kp H6.out.lt)).mono ?_;rintro r w7 ⟨rfl,h7⟩)
   |fail)
  all_goals
   refine bodyPost_end (results_none rfl _ _ _) rfl ?_;rcases Rv l [59] j 0 0 (fun _=>rfl)with⟨h1,_,h2,h3⟩|⟨h1,h2,_⟩;·refine⟨rfl,_,0,0,_,{ q with clms:=q.clms++[(⟨.slice A x.length c,⟨x,n⟩⟩:Kv)] },.inl ⟨rfl,H6.out.step (by rw[h1,h2]at h7;exact h7) (ON hj.1) (Sw _ _ _ _),rfl,?_,fun k hk hn=>(h7.kp.block k (mba hk aU.out.1.1) (fun e=>hn (.inl e))).trans (aU.out.1.2 k hk hn),aU.out.2⟩⟩;rw[M.out,h3,← a9.out];simp[qj.p]
   ·refine⟨rfl,_,_,_,_,q,.inr ⟨h1,h7.pg,(H6.out.gk.trans h7).kp.below (nba aV.out),?_⟩⟩;rw[M.out,h2 rfl]
 ·rw[a3,a5,Q]at G;rw[hx]at M;generalize (ij l (i+1:Nat)).1=x at G;generalize (ij l (i+1:Nat)).2.1=j at G;clear h hx a3 a5;go_enter Tryz.func86,Tryz.ntmps86;go_upto_region 1 with fail;go_region_held3 (fun u=>u.cell? ⟨g,0,none⟩=some v∧u.cell? ⟨g,1,none⟩=some (.int .i64 (i+1:Nat))) (first|exact⟨I.pg.c0,I.pg.c1⟩|exact⟨L.out.drew.pg.c0,L.out.drew.pg.c1⟩)
   (first|(go_at_call 146;(with_reducible refine G.out.mono ?_);rintro r w5 ⟨V,rfl,Z,aX,af,a0⟩;have I:=L.out.drew.below aX))
  have HQ:=kaa (L.out.trans ((I.set2 e).set3 p));have s2:=I.pg.c2;have bT:=I.pg.fr 2;have s3:=wh (k:=2) (u:=.int .i64 e) I.pg.c3 Uf;have bU:=di (k:=2) (u:=.int .i64 e) I.pg.fr 3;clear I Z af a0;go_wp2;all_goals
   first|refine bodyPost_end (results_none rfl _ _ _) rfl ?_|refine bodyPost_ret (results_none rfl _ _ _) rfl ?_
   exact⟨rfl,_,_,_,_,q,.inr ⟨he,HQ.out.pg,(HH.out.gk.trans HQ.out).kp.below (nba aV.out),M.out⟩⟩
theorem Ew{j:Nat}{l:List xh}{p q:lk}{i t:Nat}(h:Qi j l p i = .inl (q,t)):i<t:=by
 unfold Qi at h;split at h
 ·cases hr:fl true l (i+1)with
  |inr e=>rw[hr]at h;cases h
  |inl r=>have:=Pl (cs:=r.1) (j:=r.2) hr;rw[hr]at h;cases h;omega
 split at h
 ·cases hr:fl true l (i+1)with
  |inr e=>rw[hr]at h;cases h
  |inl r=>have:=Pl (cs:=r.1) (j:=r.2) hr;rw[hr]at h;cases h;omega
 split at h
 ·cases hr:fl false l (i+1)with
  |inr e=>rw[hr]at h;cases h
  |inl r=>have:=Pl (cs:=r.1) (j:=r.2) hr;rw[hr]at h;cases h;omega
 split at h
 ·cases E:Th l (i+1)with
  |inr e=>rw[E]at h;cases h
  |inl r =>
   have I:=Si (s:=r.1) (j:=r.2) E
   rw[E]at h
   simp only at h
   cases hr:kn l r.1 (tk l (i+1)).pos r.2 with
   |inr e=>rw[hr]at h;cases h
   |inl A=>have:=Xu (t:=A.1) (j:=A.2) hr;rw[hr]at h;cases h;omega
 split at h
 ·split at h
  ·cases hr:kn l [] (tk l i).pos (i+1)with
   |inr e=>rw[hr]at h;cases h
   |inl A=>have:=Xu (t:=A.1) (j:=A.2) hr;rw[hr]at h;cases h;omega
  ·cases h
 ·cases H:Ri l (i+1)with
  |inr e=>rw[H]at h;cases h
  |inl r =>
   have I:=(Mj (x:=r.1) (j:=r.2) H).1
   rw[H]at h
   simp only at h
   cases G:Oh l [59] r.2 with
   |inr e=>rw[G]at h;cases h
   |inl A=>have:=yj (u:=A.1) (j:=A.2) G;rw[G]at h;cases h;omega
theorem Uw{j:Nat}{l:List xh}:∀ (g A:Nat) (p:lk) (i:Nat),l.length - i≤g→l.length - i≤A→Ek j l g p i=Ek j l A p i
 |0,0,p,i,_,_=>rfl
 |0,A+1,p,i,G,_=>by exact Xe
 |g+1,0,p,i,_,H=>by exact Xe
 |g+1,A+1,p,i,G,H=>by
  unfold Ek;by_cases E:Qh l i (pw j)=true
  ·rw[if_pos E,if_pos E];cases hp:Qi j l p i with
   |inr e=>rfl
   |inl q=>exact Uw g A q.1 q.2 Jg Jg
  ·rw[if_neg E,if_neg E]
theorem aK{j:Nat}{l:List xh}{p:lk}{i:Nat}(A:Qh l i (pw j)=true):Ek j l (l.length - i) p i=match Qi j l p i with
  | .inr e=>.inr e
  | .inl (q,t)=>Ek j l (l.length - t) q t:=by
 have:=Zj A
 rw[show l.length - i=(l.length - i - 1)+1 by omega]
 conv=>lhs;unfold Ek
 rw[if_pos A]
 cases hp:Qi j l p i with
 |inr e=>rfl
 |inl q=>exact Uw _ _ _ _ Jg (aaa _)
theorem ZJ{j:Nat}{l:List xh}{p:lk}{i:Nat}(A:¬ Qh l i (pw j)=true):Ek j l (l.length - i) p i = .inl (p,i):=by
 cases l.length - i with
 |zero=>rfl
 |succ n=>unfold Ek;rw[if_neg A]
def qp:Value:=.agg #[.string (vh (pw 0)),.func (.func 81) #[] #[],.string (vh (pw 1)),.func (.func 82) #[] #[],.string (vh (pw 2)),.func (.func 83) #[] #[],
 .string (vh (pw 3)),.func (.func 84) #[] #[],.string (vh (pw 4)),.func (.func 85) #[] #[],.string (vh (pw 5)),.func (.func 86) #[] #[]]
theorem TG(u:World):(jda 62 qp (.int .i64 0)).run maa u = .ok (.agg #[.string (vh (pw 0)),.func (.func 81) #[] #[]]) u:=by kernel_rfl
theorem SG(u:World):(jda 62 qp (.int .i64 1)).run maa u = .ok (.agg #[.string (vh (pw 1)),.func (.func 82) #[] #[]]) u:=by kernel_rfl
theorem RG(u:World):(jda 62 qp (.int .i64 2)).run maa u = .ok (.agg #[.string (vh (pw 2)),.func (.func 83) #[] #[]]) u:=by kernel_rfl
theorem QG(u:World):(jda 62 qp (.int .i64 3)).run maa u = .ok (.agg #[.string (vh (pw 3)),.func (.func 84) #[] #[]]) u:=by kernel_rfl
theorem OG(u:World):(jda 62 qp (.int .i64 4)).run maa u = .ok (.agg #[.string (vh (pw 4)),.func (.func 85) #[] #[]]) u:=by kernel_rfl
theorem NG(u:World):(jda 62 qp (.int .i64 5)).run maa u = .ok (.agg #[.string (vh (pw 5)),.func (.func 86) #[] #[]]) u:=by kernel_rfl
theorem mM(w:World):Calls maa 22 #[] w fun r w'=>r = .returned qp∧Below w.heap.size w w':=by have A:Hid (∀ o,Below w.heap.size w (w.alloc o)):=fun o=>al w o;go_enter Tryz.func22,Tryz.ntmps22;go_wp2_with fail;refine bodyPost_ret (v:=qp) (by simp[results,Tryz.results22,go_sem,qp,pw,mQ,vh]) rfl ?_;exact⟨rfl,A.out _⟩
def Pn(R:lk × Int × Int)(w:World)(r:Ending)(w':World):Prop :=
 ∃ (o:Nat→Value) (q:qj),r = .returned (.tuple #[.agg #[o 0,o 1,o 2,o 3,o 4,o 5],.int .i64 R.2.1,.int .i64 R.2.2])∧R.1=q.p∧Lp w' o q∧Below w.heap.size w w'
theorem Jy{j k:Nat}{l:List xh}{p:lk}{i:Nat}(A:Qh l i (pw j)=true):Di l (k+1) j p i=match Qi j l p i with
  | .inr e=>.inr e
  | .inl (q,t)=>Di l (k+1) j q t:=by
 conv=>lhs;unfold Di
 rw[aK A]
 cases Qi j l p i with
 |inr e=>rfl
 |inl q=>rfl
theorem eu{j k:Nat}{l:List xh}{p:lk}{i:Nat}(A:¬ Qh l i (pw j)=true):Di l (k+1) j p i=Di l k (j+1) p i:=by
 conv=>lhs;unfold Di
 rw[ZJ A]
def pI(l:List xh)(g:Nat)(v:Value)(A:World)(n:Nat)(w:World)(i:Nat)(e p:Int)(o:Nat→Value)(q:qj):Prop :=
 PG w g v i e p o∧Below g A w∧((e=0∧RP l g v A w i 0 0 o q∧p=0∧Di l 6 0 fj 0=Di l (6 - n) n q.p i)∨(¬ e=0∧Di l 6 0 fj 0 = .inr (e,p)))
theorem RP.hst{l:List xh}{g:Nat}{v:Value}{A w:World}{i n:Nat}{o:Nat→Value}{q:qj}(h:RP l g v A w i 0 0 o q)(hr:Di l 6 0 fj 0=Di l (6 - n) n q.p i):pI l g v A n w i 0 0 o q :=
 ⟨h.gk.pg,h.gk.kp.below (nba h.lt),.inl ⟨rfl,h,rfl,hr⟩⟩
theorem RP.belowB{l:List xh}{g:Nat}{v:Value}{A w u:World}{i:Nat}{e p:Int}{o:Nat→Value}{q:qj}(h:RP l g v A w i e p o q)(E:Below w.heap.size w u):RP l g v A u i e p o q :=
 ⟨h.lt,h.ctx,h.gk.below E,h.rows.below E,h.le,h.cnt⟩
theorem pI.below{l:List xh}{g n:Nat}{v:Value}{E w u:World}{i:Nat}{e p:Int}{o:Nat→Value}{q:qj}(h:pI l g v E n w i e p o q)(A:Below w.heap.size w u):pI l g v E n u i e p o q :=
 ⟨h.1.below A,h.2.1.trans (A.mono (nba h.1.lt)),h.2.2.imp (fun k=>⟨k.1,k.2.1.belowB A,k.2.2⟩) id⟩
theorem pI.past{l:List xh}{g n:Nat}{v:Value}{A w:World}{i:Nat}{e p:Int}{o:Nat→Value}{q:qj}(h:pI l g v A n w i e p o q)(G:n<6)(E:e=0→¬ Qh l i (pw n)=true):pI l g v A (n+1) w i e p o q :=
 ⟨h.1,h.2.1,h.2.2.imp (fun k=>⟨k.1,k.2.1,k.2.2.1,by rw[k.2.2.2,show 6 - n=(6 - (n+1))+1 by omega];exact eu (E k.1)⟩) id⟩
theorem pI.part{l:List xh}{g n:Nat}{v:Value}{I w1 w':World}{i:Nat}{o:Nat→Value}{q:qj}{r:Ending}(L:Di l 6 0 fj 0=Di l (6 - n) n q.p i)(M:n<6)(J:Qh l i (pw n)=true)(h:Et n l g v I w1 o i q r w'):r = .returned (.tuple #[])∧∃ (G:Nat) (E H:Int) (o':Nat→Value) (q':qj),pI l g v I n w' G E H o' q'∧(E=0→i<G∧(∀ k,k<w1.heap.size→¬ Vm (fun k=>k=g) o k→w'.heap[k]? = w1.heap[k]?)∧(∀ k,Vm (fun k=>k=g) o' k→Vm (fun k=>k=g) o k∨w1.heap.size≤k)):=by
 obtain⟨rfl,G,E,H,o',q',h⟩:=h;have A:=Jy (k:=5 - n) (p:=q.p) J;rw[show 5 - n+1=6 - n by omega,← L]at A;refine⟨rfl,G,E,H,o',q',?_⟩;rcases h with⟨rfl,h1,rfl,h2,h3,h4⟩|⟨h1,h2,h3,h4⟩;·rw[h2]at A;exact⟨h1.hst A,fun _=>⟨Ew h2,h3,h4⟩⟩
 ·rw[h4]at A;exact⟨⟨h2,h3,.inr ⟨h1,A⟩⟩,fun h=>absurd h h1⟩
theorem tJ(n:Nat)(H:n<6)(l:List xh)(G:l.length≤100000)(A:∀ t∈l,t.text.length≤1000000)(g:Nat)(v:Value)(E w:World)(i:Nat)(o:Nat→Value)(q:qj)(h:RP l g v E w (i+1) 0 0 o q) :
 Calls maa ([81,82,83,84,85,86].getD n 0) #[.pointer (some ⟨g,0,none⟩),.int .i64 (tk l i).pos] w (Et n l g v E w o i q) :=
 match n,H with
 |0,_=>TM l G A g v E w i o q h _
 |1,_=>KO l G A g v E w i o q h _
 |2,_=>SM l G A g v E w i o q h _
 |3,_=>DH l G A g v E w i o q h _ rfl
 |4,_=>VD l G A g v E w i o q h _ rfl
 |5,_=>EH l G A g v E w i o q h _ rfl
def eR(n:Nat):Value:=.func (.func ([81,82,83,84,85,86].getD n 0)) #[] #[]
structure XB (w:World) (x n:Nat):Prop where
 lt:x < w.heap.size
 c0:w.cell? ⟨x,0,none⟩=some (.string (vh (pw n)))
 c1:w.cell? ⟨x,1,none⟩=some (eR n)
theorem XB.blk{w w':World}{x n:Nat}(h:XB w x n)(E:w'.heap[x]? = w.heap[x]?):XB w' x n:=by have A:=(Gca (a:=⟨x,0,none⟩) E).trans h.c0;exact⟨World.block_lt_of_cell? w' ⟨x,0,none⟩ A,A,(Gca (a:=⟨x,1,none⟩) E).trans h.c1⟩
def dQ(g:Nat)(w:World):Nat:=match w.cell? ⟨g,2,none⟩with
 |some (.int _ k)=>if k=0 then 1 else 0
 |_=>0
theorem PG.er{w:World}{g:Nat}{i e p:Int}{v:Value}{o:Nat→Value}(h:PG w g v i e p o):dQ g w=if e=0 then 1 else 0:=by unfold dQ;rw[h.c2]
theorem OO{l:List xh}{g i I:Nat}{w G:World}{v:Value}{A p M:Int}{o L:Nat→Value}(h:PG w g v i 0 p o)(H:PG G g v I A M L)(hi:i<l.length)(J:A=0→i<I):dQ g G*(l.length+1 - aP g G)<dQ g w*(l.length+1 - aP g w):=by
 rw[h.er,H.er,h.at_,H.at_,if_pos rfl];by_cases E:A=0;·have:=J E;rw[if_pos E];omega
 ·rw[if_neg E];omega
theorem lq{α:Type}{l:List α}{i:Nat}{d:α}(h:l.length≤i):l.getD i d=d:=by rw[List.getD_eq_getElem?_getD,List.getElem?_eq_none h];rfl
theorem Ho:∀ j,j<6→Dx (pw j)
 |0,_=>⟨_,_,rfl,by decide,by decide,by decide⟩
 |1,_=>⟨_,_,rfl,by decide,by decide,by decide⟩
 |2,_=>⟨_,_,rfl,by decide,by decide,by decide⟩
 |3,_=>⟨_,_,rfl,by decide,by decide,by decide⟩
 |4,_=>⟨_,_,rfl,by decide,by decide,by decide⟩
 |5,_=>⟨_,_,rfl,by decide,by decide,by decide⟩
 |n+6,h=>absurd h Tf
theorem nP:∀ j,j<6→∀ k,k<j→pw j≠pw k:=by decide
theorem JG:Dx yk:=⟨_,_,rfl,by decide,by decide,by decide⟩
theorem Rj{m:Int}{c:Xh}:jl m c=true ↔ Hh c.name=true∧0≤c.n∧c.n≤m∧vk c.pos=true:=by unfold jl;simp[and_assoc]
noncomputable def Jp(c:Xh):List T3:=(1,c.name,0)::(if c.n=0 then []else [(3,[61],0),(2,Paa c.n,c.n)])
noncomputable def ck:List Xh→List T3
 | []=>[]
 | [c]=>Jp c
 |c::d::r=>Jp c++((3,[44],0)::ck (d::r))
noncomputable def nw(w:List UInt8)(l:List Xh):List T3:=(1,w,0)::(ck l++[(3,[59],0)])
noncomputable def Fs(l:List (List UInt8)):List T3:=if l=[]then []else nw yk (l.map Gs)
theorem Yv{m:Int}(hm:m≤4294967296){c:Xh}{q:List UInt8}(h:jl m c=true)(hq:fA q):Eh (sk c) (Jp c) q:=by
 obtain⟨A,E,G,_⟩:=Rj.1 h;unfold sk Jp;by_cases h:c.n=0;·rw[if_pos h,if_pos h,Maa];exact mj (jm A) hq
 ·rw[if_neg h,if_neg h];exact kda (T:=[(1,c.name,0)]) (mj (jm A) (Kl _)) (kda (s:=[32]) (T:=[]) (Qj _) (kda (s:=[61]) (T:=[(3,[61],0)]) (cy _) (kda (s:=[32]) (T:=[]) (Qj _) (Xv E Tf hq))))
theorem wu{m:Int}(hm:m≤4294967296):∀ (l:List Xh) {q:List UInt8},(∀ c∈l,jl m c=true)→l≠[]→fA q→Eh (Wj (l.map sk)) (ck l) q
 | [],q,_,h,_=>absurd rfl h
 | [c],q,h,_,hq=>Yv hm (h c Yf) hq
 |c::d::r,q,h,_,hq=>by show Eh (sk c++([44,32]++Wj ((d::r).map sk))) (Jp c++((3,[44],0)::ck (d::r))) q;exact kda (Yv hm (h c Yf) (fun c r h=>by cases h;rfl)) (kda (s:=[44]) (T:=[(3,[44],0)]) (Cs _) (kda (s:=[32]) (T:=[]) (Qj _) (wu hm (d::r) (fun x A=>h x (lda _ A)) Yf hq)))
theorem ip{m:Int}(hm:m≤4294967296){w:List UInt8}(E:Dx w){l:List Xh}(h:∀ c∈l,jl m c=true)(A:l≠[])(q:List UInt8):Eh (dl w l) (nw w l) q :=
 kda (T:=[(1,w,0)]) (mj E (Kl _)) (kda (s:=[32]) (T:=[]) (Qj _) (kda (wu hm l h A (Pz _)) (Sp q)))
theorem bM{s:List UInt8}(h:Hh s=true):jl 0 (Gs s)=true:=Rj.2 ⟨h,uca _,uca _,by show vk 0=true;decide⟩
theorem GA{l:List (List UInt8)}(h:∀ s∈l,Hh s=true)(q:List UInt8):Eh (Fu l) (Fs l) q:=by
 unfold Fu Fs;by_cases A:l=[];·rw[if_pos A,if_pos A];exact ul q
 ·rw[if_neg A,if_neg A];refine kda (T:=[]) (Wi [32,32] _ rfl) (ip (m:=0) Uf JG (fun c E=>?_) (by simpa using A) q);obtain⟨s,G,rfl⟩:=mda.1 E;exact bM (h s G)
theorem Pw{l:List xh}{i:Nat}{s:List UInt8}{U:List T3}(H:Hh s=true)(ha:pk l i ((1,s,0)::U)):Th l i = .inl (s,i+1):=by obtain⟨E,G,A,_⟩:=ha.head;unfold Th;rw[if_pos ⟨E,G,by rw[A];exact H⟩,A]
theorem cp{l:List xh}{i:Nat}{s:List UInt8}{U:List T3}(ha:pk l i ((3,s,0)::U)):Oh l s i = .inl ((),i+1):=by unfold Oh;rw[if_pos (vj ha)]
theorem az{b:Bool}{l:List xh}{i:Nat}{c:Xh}{t:T3}{U:List T3}(J:Hh c.name=true)(I:b=true∨c.n=0)(ha:pk l i (Jp c++t::U))(ht:t.2.1≠[61]):il b l i = .inl (⟨c.name,c.n,(tk l i).pos⟩,i+(Jp c).length):=by
 have A:Th l i = .inl (c.name,i+1):=Pw J (U:=_) (by unfold Jp at ha;exact ha);unfold il;rw[A];simp only;unfold Jp at ha ⊢;by_cases h:c.n=0;·rw[if_pos h]at ha ⊢;have ha:pk l i ((1,c.name,0)::t::U):=ha;rw[if_neg (fun k=>by rw[Tk ha.tail ht]at k;exact absurd k.2 Uf),h];rfl
 ·rw[if_neg h]at ha ⊢;have ha:pk l i ((1,c.name,0)::(3,[61],0)::(2,Paa c.n,c.n)::t::U):=ha;obtain⟨E,G,_,H⟩:=ha.tail.tail.head;rw[if_pos ⟨I.resolve_right h,vj ha.tail⟩,if_pos ⟨E,G⟩,H];rfl
theorem Yy:∀ l:List Xh,l.length≤(ck l).length
 | []=>laa _
 | [c]=>by show 1≤(Jp c).length;unfold Jp;simp
 |c::d::r=>by have:=Yy (d::r);show _≤(Jp c++((3,[44],0)::ck (d::r))).length;simp only[xaa,jaa]at this ⊢;omega
theorem ux{b:Bool}{l:List xh}:∀ (r:List Xh) (g i:Nat) (U:List T3),r≠[]→(∀ c∈r,Hh c.name=true∧(b=true∨c.n=0))→r.length≤g→pk l i (ck r++(3,[59],0)::U)→∃ x,Oj b l g i = .inl (x,i+(ck r).length+1)∧x.map xi=r.map xi
 | [],_,_,_,h,_,_,_=>absurd rfl h
 | [c],0,_,_,_,_,A,_=>absurd A Yf
 | [c],g+1,i,U,_,E,_,ha=>by obtain⟨G,H⟩:=E c Yf;have ha:pk l i (Jp c++(3,[59],0)::U):=ha;unfold Oj;rw[az G H ha Uf];simp only;rw[if_neg (by rw[Tk ha.right Uf];decide),cp ha.right];exact⟨_,rfl,rfl⟩
 |c::d::r,0,_,_,_,_,A,_=>absurd A Yf
 |c::d::r,g+1,i,U,_,E,A,ha=>by
  obtain⟨G,H⟩:=E c Yf;have ha:pk l i (Jp c++((3,[44],0)::(ck (d::r)++(3,[59],0)::U))):=by rw[show ck (c::d::r)=Jp c++((3,[44],0)::ck (d::r))from rfl,oca]at ha;exact ha
  obtain⟨x,J,hm⟩:=ux (d::r) g _ U Yf (fun y L=>E y (lda _ L)) (by simpa using A) ha.right.tail;unfold Oj;rw[az G H ha Uf];simp only;rw[if_pos (vj ha.right),J];have I:(ck (c::d::r)).length=(Jp c).length+((ck (d::r)).length+1):=by rw[show ck (c::d::r)=Jp c++((3,[44],0)::ck (d::r))from rfl,xaa,jaa]
  refine⟨⟨c.name,c.n,(tk l i).pos⟩::x,?_,?_⟩;·rw[show i+(Jp c).length+1+(ck (d::r)).length+1=i+(ck (c::d::r)).length+1 by rw[I];omega]
  ·rw[tca,hm];rfl
theorem Hq{b:Bool}{l:List xh}{r:List Xh}{i:Nat}{U:List T3}(A:r≠[])(G:∀ c∈r,Hh c.name=true∧(b=true∨c.n=0))(ha:pk l i (ck r++(3,[59],0)::U)):∃ x,fl b l i = .inl (x,i+(ck r).length+1)∧x.map xi=r.map xi:=by have E:=ha.le;have H:=Yy r;simp only[xaa,jaa]at E;exact ux r _ i U A G Tf ha
theorem qD{l:List xh}{r:List (List UInt8)}{i:Nat}{V:List T3}(hr:∀ s∈r,Hh s=true)(ha:pk l i (Fs r++V))(A:r=[]→Qh l i yk=false):Zp l i = .inl (r,i+(Fs r).length):=by
 unfold Zp;unfold Fs at ha ⊢;by_cases h:r=[];·rw[if_pos h,if_neg (by rw[A h];decide),h];rfl
 ·rw[if_neg h]at ha ⊢;have ha:pk l i ((1,yk,0)::(ck (r.map Gs)++(3,[59],0)::V)):=by unfold nw at ha;simpa using ha
  rw[if_pos (Qm ha)];obtain⟨x,H,hm⟩:=Hq (b:=false) xg (fun c E=>by obtain⟨s,G,rfl⟩:=mda.1 E;exact⟨hr s G,.inr rfl⟩) ha.tail;rw[H];have e:x.map (·.name)=r:=by have:=congrArg (nda (·.name)) hm;rw[oda,oda,oda]at this;exact this.trans (List.map_id r)
  simp only[e,nw,jaa,xaa,Xaa];rw[show i+1+(ck (r.map Gs)).length+1=i+((ck (r.map Gs)).length+(0+1)+1) by omega]
theorem eG{l:List xh}{A:Bool→Nat→RS (List St)}{b:Bool}{g i j:Nat}{x:List St}(h:Ij (ej A b l) l (g+1) i = .inl (x,j)):Qh l i yk=false:=by
 cases hr:Qh l i yk with
 |false=>rfl
 |true =>
  exfalso
  have ht:=(bj hr).1
  have H:∀ s,s≠yk→Qh l i s=false:=fun s H=>by
   cases E:Qh l i s with
   |false=>rfl
   |true=>exact absurd ((bj E).1.symm.trans ht) H
  have hk:Nh l i=1:=by
   by_cases E:Nh l i=1;·exact E
   ·have G:=Po E;have I:=(bj G).1;rw[ht]at I;have J:∀ k,Ai k≠yk:=fun k=>by
     by_cases hk:k<15;·revert k;decide
     ·unfold Ai DE;rw[lq Ag];decide
    exact absurd I.symm (J _)
  have hn:∃ e,Th l i = .inr e:=by unfold Th;rw[if_neg (fun h=>by rw[ht]at h;exact absurd h.2.2 Uf)];exact⟨_,rfl⟩
  obtain⟨e,hn⟩:=hn
  have hp:∀ x,Hi l (Gh 1) 0 x i = .inr e:=fun x=>by exact Vc
  have L:ej A b l i = .inr e:=by exact oe
  unfold Ij at h
  rw[if_neg (fun G=>by rw[H [125] Uf]at G;exact absurd G Uf),L]at h
  cases h
theorem aI{x:List St}(h:Jj x=true):∃ T:List T3,(∀ G,G.all gi=true→∀ q,Eh (Wm G x) T q)∧∀ (l:List xh) (o i:Nat) (U:List T3),pk l i (T++((3,[125],0)::U))→∃ y,Yl l o i = .inl (y,i+T.length+1)∧y.map Zh=x.map Zh∧Qh l i yk=false:=by
 obtain⟨Q,I,d,J,L⟩:=(Uj x).1 h;obtain⟨T,M,O,_⟩:=CG L I;refine⟨T,fun G H q=>?_,fun l o i U ha=>?_⟩;·obtain⟨t,A,E⟩:=M G H;rw[fu A];exact E q
 ·obtain⟨y,A,E⟩:=O l 12 i U J ha;have h5:=ha.le;simp only[xaa,jaa]at h5;have h6:Qh l i yk=false:=eG (g:=l.length - i) (by rw[show l.length - i+1=l.length+1 - i by omega];exact A);refine⟨y,?_,E,h6⟩;unfold Yl;rw[A];simp only;rw[cp ha.right];simp only;have:=Oo E;rw[if_neg Tf]
theorem tA{t:Jt}(h:Xi t=true):∃ T:List T3,(∀ q,Eh (El++(Fu t.regs++(Wm [32,32] t.body++bm))) T q)∧∀ (l:List xh) (s:List UInt8) (A:Int) (i:Nat) (U:List T3),pk l i (T++U)→∃ y:Jt,kn l s A i = .inl (y,i+T.length)∧kj y=⟨s,t.regs,t.body.map Zh,0⟩:=by
 unfold Xi at h;simp only[Raa,pda]at h;obtain⟨⟨_,hr⟩,J⟩:=h;obtain⟨T,E,G⟩:=aI J;refine⟨(3,[123],0)::(Fs t.regs++(T++[(3,[125],0)])),fun q=>?_,fun l s A i U ha=>?_⟩;·exact kda (T:=[(3,[123],0)]) (pn _) (kda (GA hr _) (kda (E _ rfl _) (gp _)))
 ·have ha:pk l i ((3,[123],0)::(Fs t.regs++(T++((3,[125],0)::U)))):=by simpa using ha
  obtain⟨y,H,I,h5⟩:=G l i _ U ha.tail.right;refine⟨⟨s,t.regs,y,A⟩,?_,?_⟩;·unfold kn;rw[cp ha];simp only;rw[qD hr ha.tail (fun e=>by rw[e]at h5;exact h5)];simp only;rw[H];simp only[jaa,xaa,Xaa];rw[show i+1+(Fs t.regs).length+T.length+1=i+((Fs t.regs).length+(T.length+(0+1))+1) by omega]
  ·unfold kj;rw[I]
structure WN (j:Nat) (s:List UInt8) (T:List T3) (f:lk→lk):Prop where
 scan:∀ q,Eh s T q
 read:∀ (l:List xh) (i:Nat) (U:List T3) (p:lk),pk l i (T++U)→(j=4→p.rcv = [])→Qh l i (pw j)=true∧∃ p',Qi j l p i = .inl (p',i+T.length)∧Ni p' = f (Ni p)∧(j≠4→p'.rcv=p.rcv)
structure ur (lo n hi:Nat) (s:List UInt8) (T:List T3) (f:lk→lk):Prop where
 le:n≤hi
 scan:∀ q,Eh s T q
 read:∀ (l:List xh) (i:Nat) (U:List T3) (p:lk) (m0:Nat),m0≤n→(n≤4→p.rcv = [])→pk l i (T++U)→∃ p' m,m0≤m∧lo≤m∧m≤hi∧Di l (6 - m0) m0 p i=Di l (6 - m) m p' (i+T.length)∧Ni p' = f (Ni p)∧(hi < 4→p'.rcv = [])
theorem Iu{l:List xh}{p:lk}{i j:Nat}(A:j<6)(E:Qh l i (pw j)=true):∀ (d m:Nat),m+d=j→Di l (6 - m) m p i=Di l (6 - j) j p i
 |0,m,h=>by rw[show m=j by omega]
 |d+1,m,h=>by rw[show 6 - m=(6 - (m+1))+1 by omega,eu (fun G=>nP j A m Tf ((bj E).1.symm.trans (bj G).1))];exact Iu A E d (m+1) Tf
theorem ur.nil(n:Nat):ur 0 n n [] [] id :=
 ⟨aaa _,ul,fun l i U p A h hr ha=>⟨p,A,aaa _,laa _,h,rfl,rfl,fun E=>hr Tf⟩⟩
theorem ur.one{j:Nat}{s:List UInt8}{T:List T3}{f:lk→lk}(J:j<6)(h:WN j s T f):ur j j j s T f :=
 ⟨aaa _,h.scan,fun l i U p E hm hr ha=>by obtain⟨A,L,G,H,I⟩:=h.read l i U p ha (fun e=>hr Tf);refine⟨L,j,hm,aaa _,aaa _,?_,H,fun h5=>(I Tf).trans (hr Tf)⟩;rw[Iu J A (j - E) E Tf];have:=Jy (k:=5 - j) (p:=p) A;rw[show 5 - j+1=6 - j by omega]at this;rw[this,G]⟩
theorem ur.app{a b n h H k:Nat}{s t:List UInt8}{T U:List T3}{f g:lk→lk}(A:ur a n h s T f)(E:ur b H k t U g)(G:h≤H)(O:H≤4→h<4):ur (max a b) n k (s++t) (T++U) (g ∘ f) :=
 ⟨yba A.le (yba G E.le),fun q=>kda (A.scan _) (E.scan _),fun l i V p Q hm hr ha=>by rw[oca]at ha;obtain⟨p1,Y,c1,c2,c3,c4,c5,c6⟩:=A.read l i _ p Q hm hr ha;obtain⟨p2,Z,d1,d2,I,J,L,M⟩:=E.read l _ V p1 Y Tf (fun e=>c6 (O e)) ha.right;refine⟨p2,Z,by omega,by omega,I,?_,by rw[L,c5];rfl,M⟩;rw[c4,J,xaa,Nat.add_assoc]⟩
theorem ur.congr{a n h:Nat}{s A:List UInt8}{T:List T3}{f g:lk→lk}(E:ur a n h s T f)(H:s=A)(G:∀ b,f b=g b):ur a n h A T g:=by obtain rfl:f=g:=funext G;subst H;exact E
theorem ur.lower{a a' n h:Nat}{s:List UInt8}{T:List T3}{f:lk→lk}(A:ur a n h s T f)(ha:a'≤a):ur a' n h s T f :=
 ⟨A.le,A.scan,fun l i U p G hm hr E=>by obtain⟨H,m,c1,c2,c3⟩:=A.read l i U p G hm hr E;exact⟨H,m,c1,by omega,c3⟩⟩
theorem ur.list{α:Type}{j:Nat}(G:j<6)(H:j≠4)(A:α→List UInt8)(E:α→lk→lk):∀ L:List α,(∀ x∈L,∃ T,WN j (A x) T (E x))→∃ T,ur (if L.isEmpty then 0 else j) j j (L.flatMap A) T (fun b=>L.foldl (fun b x=>E x b) b)
 | [],_=>⟨[],ur.nil j⟩
 |x::r,h=>by obtain⟨T,I⟩:=h x Yf;obtain⟨U,J⟩:=ur.list G H A E r (fun y M=>h y (lda _ M));refine⟨T++U,?_⟩;have:=(ur.one G I).app J (aaa _) (fun e=>by omega);exact(this.congr (by rw[baa]) (fun b=>rfl)).lower Ng
theorem xI{r:List Xh}(A:r≠[])(h:yi 4294967296 r=true):WN 0 (dl (pw 0) r) (nw (pw 0) r) (fun b=>{ b with lines:=b.lines++[r.map xi] }):=by
 have G:∀ c∈r,jl 4294967296 c=true:=pda.1 h;refine⟨ip Uf (Ho 0 Uf) G A,fun l i U p ha _=>?_⟩;have ha:pk l i ((1,pw 0,0)::(ck r++(3,[59],0)::U)):=by unfold nw at ha;simpa using ha
 obtain⟨x,E,hm⟩:=Hq (b:=true) A (fun c E=>⟨(Rj.1 (G c E)).1,.inl rfl⟩) ha.tail;refine⟨Qm ha,{ p with lines:=p.lines++[x] },?_,?_,fun _=>rfl⟩;·unfold Qi;rw[if_pos rfl,E];exact jc
 ·unfold Ni;simp[hm]
theorem yL{r:List Xh}(A:r≠[])(h:yi 4294967296 r=true):WN 1 (dl (pw 1) r) (nw (pw 1) r) (fun b=>{ b with vols:=b.vols++r.map xi }):=by
 have G:∀ c∈r,jl 4294967296 c=true:=pda.1 h;refine⟨ip Uf (Ho 1 Uf) G A,fun l i U p ha _=>?_⟩;have ha:pk l i ((1,pw 1,0)::(ck r++(3,[59],0)::U)):=by unfold nw at ha;simpa using ha
 obtain⟨x,E,hm⟩:=Hq (b:=true) A (fun c E=>⟨(Rj.1 (G c E)).1,.inl rfl⟩) ha.tail;refine⟨Qm ha,{ p with vols:=p.vols++x },?_,?_,fun _=>rfl⟩;·unfold Qi;rw[if_neg Uf,if_pos rfl,E];exact jc
 ·unfold Ni;simp[hm]
theorem wI{r:List Xh}(A:r≠[])(h:yi 0 r=true):WN 2 (dl (pw 2) r) (nw (pw 2) r) (fun b=>{ b with locks:=b.locks++r.map xi }):=by
 have G:∀ c∈r,jl 0 c=true:=pda.1 h;refine⟨ip Uf (Ho 2 Uf) G A,fun l i U p ha _=>?_⟩;have ha:pk l i ((1,pw 2,0)::(ck r++(3,[59],0)::U)):=by unfold nw at ha;simpa using ha
 obtain⟨x,E,hm⟩:=Hq (b:=false) A (fun c E=>by obtain⟨H,I,J,_⟩:=Rj.1 (G c E);exact⟨H,.inr Tf⟩) ha.tail;refine⟨Qm ha,{ p with locks:=p.locks++x },?_,?_,fun _=>rfl⟩;·unfold Qi;rw[if_neg Uf,if_neg Uf,if_pos rfl,E];exact jc
 ·unfold Ni;simp[hm]
theorem AL{t:Jt}(A:Hh t.name=true)(h:Xi t=true):∃ T,WN 3 (Hv t) T (fun b=>{ b with thrs:=b.thrs++[kj t] }):=by
 obtain⟨T,E,G⟩:=tA h;refine⟨(1,pw 3,0)::(1,t.name,0)::T,fun q=>?_,fun l i U p ha _=>?_⟩;·unfold Hv Xo;rw[oca,oca];exact kda (T:=[(1,pw 3,0)]) (mj (Ho 3 Uf) (Kl _)) (kda (s:=[32]) (T:=[]) (Qj _) (kda (T:=[(1,t.name,0)]) (mj (jm A) (Kl _)) (E q)))
 ·have ha:pk l i ((1,pw 3,0)::(1,t.name,0)::(T++U)):=ha;obtain⟨y,H,I⟩:=G l t.name (tk l (i+1)).pos _ U ha.tail.tail;refine⟨Qm ha,{ p with thrs:=p.thrs++[y] },?_,?_,fun _=>rfl⟩;·unfold Qi;rw[if_neg Uf,if_neg Uf,if_neg Uf,if_pos rfl,Pw A ha.tail];simp only;rw[H];simp only[jaa];rw[show i+1+1+T.length=i+(T.length+1+1) by omega]
  ·unfold Ni;simp[I];rfl
theorem BL{t:Jt}(I:t.name=[])(h:Xi t=true):∃ T,WN 4 (Xo (pw 4) t) T (fun b=>{ b with rcv:=[kj t] }):=by
 obtain⟨T,A,E⟩:=tA h;refine⟨(1,pw 4,0)::T,fun q=>?_,fun l i U p ha hr=>?_⟩;·unfold Xo;exact kda (T:=[(1,pw 4,0)]) (mj (Ho 4 Uf) (Kl _)) (A q)
 ·have ha:pk l i ((1,pw 4,0)::(T++U)):=ha;obtain⟨y,G,H⟩:=E l [] (tk l i).pos _ U ha.tail;refine⟨Qm ha,{ p with rcv:=[y] },?_,?_,fun h=>absurd rfl h⟩;·unfold Qi;rw[if_neg Uf,if_neg Uf,if_neg Uf,if_neg Uf,if_pos rfl,if_pos (hr rfl),G];simp only[jaa];rw[show i+1+T.length=i+(T.length+1) by omega]
  ·unfold Ni;simp[H];rw[← I];rfl
theorem CL{c:zE}(h:Fh c.e=true):WN 5 (sr c) ((1,pw 5,0)::(Ym c.e++[(3,[59],0)])) (fun b=>{ b with clms:=b.clms++[gm c] }):=by
 refine⟨fun q=>?_,fun l i U p ha _=>?_⟩;·unfold sr;exact kda (T:=[(1,pw 5,0)]) (mj (Ho 5 Uf) (Kl _)) (kda (s:=[32]) (T:=[]) (Qj _) (kda (Up h (Pz _)) (Sp q)))
 ·have ha:pk l i ((1,pw 5,0)::(Ym c.e++(3,[59],0)::U)):=by simpa using ha
  obtain⟨y,A,E⟩:=Rr h ha.tail.left (lu _ ha.tail.right);refine⟨Qm ha,{ p with clms:=p.clms++[⟨y,(tk l i).pos⟩] },?_,?_,fun _=>rfl⟩;·unfold Qi;rw[if_neg Uf,if_neg Uf,if_neg Uf,if_neg Uf,if_neg Uf,A];simp only;rw[cp ha.tail.right];simp only[jaa,xaa,Xaa];rw[show i+1+(Ym c.e).length+1=i+((Ym c.e).length+(0+1)+1) by omega]
  ·unfold Ni gm;simp[E]
theorem Jk{p:lk}(h:Mi p=true):(∀ r∈p.lines,r≠[]∧yi 4294967296 r=true)∧yi 4294967296 p.vols=true∧yi 0 p.locks=true∧p.rcv.length≤1∧(∀ t∈p.thrs,Hh t.name=true∧Xi t=true)∧(∀ t∈p.rcv,t.name=[]∧Xi t=true)∧∀ c∈p.clms,vk c.pos=true∧Fh c.e=true:=by unfold Mi at h;simp only[Raa,pda,decide_eq_true_eq,qda,rda,beq_iff_eq]at h;obtain⟨⟨⟨⟨⟨⟨A,E⟩,G⟩,H⟩,h5⟩,h6⟩,I⟩:=h;exact⟨A,E,G,H,h5,h6,I⟩
theorem jx:∀ (L:List (List Xh)) (b:lk),L.foldl (fun b x=>{ b with lines:=b.lines++[x.map xi] }) b = { b with lines:=b.lines++L.map (·.map xi) }
 | [],b=>by simp
 |x::r,b=>by rw[sda,jx r];simp
theorem Qy:∀ (L:List Jt) (b:lk),L.foldl (fun b x=>{ b with thrs:=b.thrs++[kj x] }) b = { b with thrs:=b.thrs++L.map kj }
 | [],b=>by simp
 |x::r,b=>by rw[sda,Qy r];simp
theorem Ry:∀ (L:List zE) (b:lk),L.foldl (fun b x=>{ b with clms:=b.clms++[gm x] }) b = { b with clms:=b.clms++L.map gm }
 | [],b=>by simp
 |x::r,b=>by rw[sda,Ry r];simp
theorem FI{p:lk}(h:Mi p=true):∃ T f,ur (if p.thrs.isEmpty then 0 else 3) 0 5 (Ml p) T f∧f fj=Ni p:=by
 obtain⟨H,Y,Z,G,h5,h6,h7⟩:=Jk h;obtain⟨T0,I⟩:=ur.list (j:=0) Uf Uf (dl (pw 0)) (fun x b=>{ b with lines:=b.lines++[x.map xi] }) p.lines (fun x E=>⟨_,xI (H x E).1 (H x E).2⟩);obtain⟨T1,J⟩:∃ T,ur 0 1 1 (if p.vols=[]then []else dl (pw 1) p.vols) T (fun b=>{ b with vols:=b.vols++p.vols.map xi }):=by
  by_cases A:p.vols=[];·rw[if_pos A,A];exact⟨_,(ur.nil 1).congr rfl (fun b=>by simp)⟩
  ·rw[if_neg A];exact⟨_,(ur.one Uf (yL A Y)).lower (laa _)⟩
 obtain⟨T2,L⟩:∃ T,ur 0 2 2 (if p.locks=[]then []else dl (pw 2) p.locks) T (fun b=>{ b with locks:=b.locks++p.locks.map xi }):=by
  by_cases A:p.locks=[];·rw[if_pos A,A];exact⟨_,(ur.nil 2).congr rfl (fun b=>by simp)⟩
  ·rw[if_neg A];exact⟨_,(ur.one Uf (wI A Z)).lower (laa _)⟩
 obtain⟨T3,M⟩:=ur.list (j:=3) Uf Uf Hv (fun x b=>{ b with thrs:=b.thrs++[kj x] }) p.thrs (fun x E=>AL (h5 x E).1 (h5 x E).2);obtain⟨T4,O⟩:∃ T,ur 0 4 4 (p.rcv.flatMap (Xo (pw 4))) T (fun b=>{ b with rcv:=if p.rcv=[]then b.rcv else p.rcv.map kj }):=by
  match hr:p.rcv,G,h6 with
  | [],_,_=>exact⟨_,(ur.nil 4).congr rfl (fun b=>by simp)⟩
  | [x],_,h6 =>obtain⟨T,hT⟩:=BL (h6 x Yf).1 (h6 x Yf).2;exact⟨T,((ur.one Uf hT).lower (laa _)).congr Yf (fun b=>by simp)⟩
  |_::_::_,G,_=>exact absurd G Yf
 obtain⟨T5,Q⟩:=ur.list (j:=5) Uf Uf sr (fun x b=>{ b with clms:=b.clms++[gm x] }) p.clms (fun x E=>⟨_,CL (h7 x E).2⟩);have:=I.app (J.app (L.app (M.app (O.app Q Uf Uf) Uf Uf) Uf Uf) Uf Uf) Uf Uf;refine⟨_,_,this.lower ?_,?_⟩;·generalize (if p.thrs.isEmpty=true then 0 else 3)=a;omega
 ·simp only[Function.comp,jx,Qy,Ry];unfold Ni fj;simp
theorem Tw{l:List xh}{p:lk}{i:Nat}:∀ (n j:Nat),(∀ k,j≤k→k<j+n→Qh l i (pw k)=true→False)→Di l n j p i = .inl (p,i)
 |0,_,_=>rfl
 |n+1,j,h=>by rw[eu (h j (aaa _) Tf)];exact Tw n (j+1) (fun k A E=>h k Tf Tf)
theorem rM{lo:Nat}{s:List UInt8}{T:List T3}{f:lk→lk}(h:ur lo 0 5 s T f)(M:s.length≤4000):∃ q,Aj s=(q,0,0)∧Ni q=f fj:=by
 obtain⟨A,G,H⟩:=h.scan [] 0;rw[Maa,uG,nC]at H;have E:Li s=(A,0,0):=by rw[OE M];exact H
 have ha:pk A 0 (T++[]):=⟨[],A,[],by simp,rfl,by simpa using G⟩;obtain⟨q,m,_,_,_,L,h5,_⟩:=h.read A 0 [] fj 0 (aaa _) (fun _=>rfl) ha;have J:A.length=T.length:=by rw[← G,Oca]
 refine⟨q,?_,h5⟩;unfold Aj eB;rw[E,if_pos rfl];simp only;rw[show Di A 6 0 fj 0=Di A (6 - m) m q (0+T.length)from L,Tw _ _ (fun k _ _ I=>by rw[sn Tf]at I;cases I)];simp only;rw[if_neg Tf]
theorem rE{b:Bool}{l:List xh}(h:∀ t∈l,Fi 4000 t){i j:Nat}{c:Xh}(hr:il b l i = .inl (c,j)):jl (if b then 4294967296 else 0) c=true:=by
 unfold il at hr
 cases E:Th l i with
 |inr e=>rw[E]at hr;cases hr
 |inl q =>
  obtain⟨s,k⟩:=q
  obtain⟨G,Q,L,M,h5⟩:=Si E
  rw[E]at hr
  have hT:=h _ (dba G)
  rw[← rj G]at hT
  have I:vk (tk l i).pos=true:=by exact ud
  have J:Hh s=true:=by rw[M];exact L
  simp only at hr
  split at hr
  ·rename_i O;split at hr;·rename_i H;cases hr;have A:=h _ (dba H.1);rw[← rj H.1]at A;rw[O.1];exact Rj.2 ⟨J,A.num0,A.num1,I⟩
   ·cases hr
  ·cases hr;exact Rj.2 ⟨J,uca _,by show(0:Int)≤_;split<;>decide,I⟩
theorem Sm{b:Bool}{l:List xh}(h:∀ t∈l,Fi 4000 t):∀ (g i:Nat) (r:List Xh) (j:Nat),Oj b l g i = .inl (r,j)→r≠[]∧yi (if b then 4294967296 else 0) r=true
 |0,i,r,j,hr=>by unfold Oj at hr;cases hr
 |g+1,i,r,j,hr=>by
  unfold Oj at hr
  cases A:il b l i with
  |inr e=>rw[A]at hr;cases hr
  |inl q =>
   have H:=rE h (c:=q.1) (j:=q.2) A;rw[A]at hr;simp only at hr;split at hr
   ·cases E:Oj b l g (q.2+1)with
    |inr e=>rw[E]at hr;cases hr
    |inl G =>have I:=Sm h g _ G.1 G.2 E;rw[E]at hr;cases hr;refine⟨by simp,?_⟩;unfold yi at I ⊢;rw[Uaa,H,I.2];rfl
   ·cases J:Oh l [59] q.2 with
    |inr e=>rw[J]at hr;cases hr
    |inl G =>rw[J]at hr;cases hr;refine⟨by simp,?_⟩;unfold yi;rw[Uaa,H];rfl
theorem pE{m:Int}{r:List Xh}(h:yi m r=true):(r.map (·.name)).all Hh=true:=by rw[tda,pda];exact fun c A=>(Rj.1 (pda.1 h c A)).1
theorem Jv{l:List xh}(h:∀ t∈l,Fi 4000 t){s:List UInt8}{p:Int}(Z:vk p=true){i j:Nat}{t:Jt}(hr:kn l s p i = .inl (t,j)):t.name=s∧Xi t=true:=by
 unfold kn at hr
 cases M:Oh l [123] i with
 |inr e=>rw[M]at hr;cases hr
 |inl q =>
  rw[M]at hr
  simp only at hr
  cases E:Zp l q.2 with
  |inr e=>rw[E]at hr;cases hr
  |inl H =>
   rw[E]at hr
   simp only at hr
   cases A:Yl l i H.2 with
   |inr e=>rw[A]at hr;cases hr
   |inl q3 =>
    rw[A]at hr
    cases hr
    refine⟨rfl,?_⟩
    have G:H.1.all Hh=true:=by
     unfold Zp at E;split at E
     ·cases I:fl false l (q.2+1)with
      |inr e=>rw[I]at E;cases E
      |inl O =>
       have:=Sm h _ _ O.1 O.2 I
       rw[I]at E
       cases E
       exact pE this.2
     ·cases E;rfl
    have Y:Jj q3.1=true:=by
     unfold Yl at A
     cases h5:Ij (ej (mi l 12) false l) l (l.length+1 - H.2) H.2 with
     |inr e=>rw[h5]at A;cases A
     |inl L =>
      obtain⟨f,D,Q,r⟩:=Kt h (cz h 12) _ _ L.1 L.2 h5
      rw[h5]at A
      simp only at A
      cases h6:Oh l [125] L.2 with
      |inr e=>rw[h6]at A;cases A
      |inl q6 =>
       rw[h6]at A
       simp only at A
       split at A
       ·cases A
       ·rename_i J;cases A;exact(Uj _).2 ⟨Nat.le_of_not_lt J,f,D,Q,r⟩
    unfold Xi
    simp only[Z,G,Y,Bool.and_self]
theorem vD{l:List xh}(h:∀ t∈l,Fi 4000 t)(i:Nat):vk (tk l i).pos=true:=by
 by_cases hi:i<l.length;·have hT:=h _ (dba hi);rw[← rj hi]at hT;exact ud
 ·unfold tk;rw[lq Tf];decide
theorem Hl{p:lk}(A:∀ r∈p.lines,r≠[]∧yi 4294967296 r=true)(E:yi 4294967296 p.vols=true)(G:yi 0 p.locks=true)(H:p.rcv.length≤1)(h5:∀ t∈p.thrs,Hh t.name=true∧Xi t=true)(h6:∀ t∈p.rcv,t.name=[]∧Xi t=true)(I:∀ c∈p.clms,vk c.pos=true∧Fh c.e=true):Mi p=true:=by unfold Mi;simp only[Raa,pda,decide_eq_true_eq,qda,rda,beq_iff_eq];exact⟨⟨⟨⟨⟨⟨A,E⟩,G⟩,H⟩,h5⟩,h6⟩,I⟩
theorem fq{α:Type}{P:α→Prop}{l:List α}{x:α}(h:∀ y∈l,P y)(E:P x):∀ y∈l++[x],P y:=fun y A=>by
 rcases vca.1 A with A|A;·exact h y A
 ·rw[ida.1 A];exact E
theorem xx{m:Int}{a b:List Xh}(ha:yi m a=true)(A:yi m b=true):yi m (a++b)=true:=by unfold yi at *;rw[List.all_append,ha,A];rfl
theorem pB{j:Nat}{l:List xh}(h:∀ t∈l,Fi 4000 t){p q:lk}{i t:Nat}(Z:Mi p=true)(hr:Qi j l p i = .inl (q,t)):Mi q=true:=by
 obtain⟨E,G,H,L,h5,h6,I⟩:=Jk Z;unfold Qi at hr;split at hr
 ·cases A:fl true l (i+1)with
  |inr e=>rw[A]at hr;cases hr
  |inl r =>have:=Sm h _ _ r.1 r.2 A;rw[A]at hr;cases hr;exact Hl (fq E this) G H L h5 h6 I
 split at hr
 ·cases A:fl true l (i+1)with
  |inr e=>rw[A]at hr;cases hr
  |inl r =>have:=Sm h _ _ r.1 r.2 A;rw[A]at hr;cases hr;exact Hl E (xx G this.2) H L h5 h6 I
 split at hr
 ·cases A:fl false l (i+1)with
  |inr e=>rw[A]at hr;cases hr
  |inl r =>have:=Sm h _ _ r.1 r.2 A;rw[A]at hr;cases hr;exact Hl E G (xx H this.2) L h5 h6 I
 split at hr
 ·cases M:Th l (i+1)with
  |inr e=>rw[M]at hr;cases hr
  |inl r =>
   have O:=Si (s:=r.1) (j:=r.2) M
   rw[M]at hr
   simp only at hr
   cases A:kn l r.1 (tk l (i+1)).pos r.2 with
   |inr e=>rw[A]at hr;cases hr
   |inl J =>have:=Jv h (vD h _) (t:=J.1) (j:=J.2) A;rw[A]at hr;cases hr;exact Hl E G H L (fq h5 ⟨by rw[this.1,O.2.2.2.1];exact O.2.2.1,this.2⟩) h6 I
 split at hr
 ·split at hr
  ·cases A:kn l [] (tk l i).pos (i+1)with
   |inr e=>rw[A]at hr;cases hr
   |inl J =>have:=Jv h (vD h _) (t:=J.1) (j:=J.2) A;rw[A]at hr;cases hr;exact Hl E G H (aaa _) h5 (fun y hy=>by rw[ida.1 hy];exact this) I
  ·cases hr
 ·cases A:Ri l (i+1)with
  |inr e=>rw[A]at hr;cases hr
  |inl r =>
   have Y:=mq h (x:=r.1) (j:=r.2) A
   rw[A]at hr
   simp only at hr
   cases Q:Oh l [59] r.2 with
   |inr e=>rw[Q]at hr;cases hr
   |inl J =>rw[Q]at hr;cases hr;exact Hl E G H L h5 h6 (fq I ⟨vD h _,Y⟩)
theorem Ku{j:Nat}{l:List xh}(h:∀ t∈l,Fi 4000 t):∀ (g:Nat) (p:lk) (i:Nat) (q:lk) (t:Nat),Mi p=true→Ek j l g p i = .inl (q,t)→Mi q=true
 |0,p,i,q,t,A,hr=>by unfold Ek at hr;cases hr;exact A
 |g+1,p,i,q,t,A,hr=>by
  unfold Ek at hr;split at hr
  ·cases E:Qi j l p i with
   |inr e=>rw[E]at hr;cases hr
   |inl r=>rw[E]at hr;exact Ku h g r.1 r.2 q t (pB h A (q:=r.1) (t:=r.2) E) hr
  ·cases hr;exact A
theorem Ys{l:List xh}(h:∀ t∈l,Fi 4000 t):∀ (n j:Nat) (p:lk) (i:Nat) (q:lk) (t:Nat),Mi p=true→Di l n j p i = .inl (q,t)→Mi q=true
 |0,j,p,i,q,t,A,hr=>by unfold Di at hr;cases hr;exact A
 |n+1,j,p,i,q,t,A,hr=>by
  unfold Di at hr
  cases E:Ek j l (l.length - i) p i with
  |inr e=>rw[E]at hr;cases hr
  |inl r=>rw[E]at hr;exact Ys h n (j+1) r.1 r.2 q t (Ku h _ _ _ r.1 r.2 A E) hr
theorem tu:Mi fj=true:=Hl (by simp[fj]) rfl rfl (laa _) (by simp[fj]) (by simp[fj]) (by simp[fj])
section
variable {l : List xh} {n : Nat}
theorem zN(h:∀ t∈l,Fi n t)(hn:n≤4000)(b:Bool):Tm n (il b l):=fun i e p hr=>by
 unfold il at hr
 cases A:Th l i with
 |inr q=>rw[A]at hr;cases hr;exact Us h hn _ _ _ A
 |inl q =>
  rw[A]at hr
  simp only at hr
  split at hr
  ·split at hr;·cases hr
   ·exact Df
  ·cases hr
theorem qq(h:∀ t∈l,Fi n t)(E:n≤4000)(b:Bool):∀ g,Tm n (Oj b l g)
 |0,i,e,p,hr=>by unfold Oj at hr;injection hr with hr;exact zt h E Uf hr
 |g+1,i,e,p,hr=>by
  unfold Oj at hr
  cases G:il b l i with
  |inr q=>rw[G]at hr;cases hr;exact zN h E b _ _ _ G
  |inl q =>
   rw[G]at hr;simp only at hr;split at hr
   ·cases A:Oj b l g (q.2+1)with
    |inr H=>rw[A]at hr;cases hr;exact qq h E b g _ _ _ A
    |inl H=>rw[A]at hr;cases hr
   ·cases A:Oh l [59] q.2 with
    |inr H=>rw[A]at hr;cases hr;exact Km h E _ _ _ _ A
    |inl H=>rw[A]at hr;cases hr
theorem DI(h:∀ t∈l,Fi n t)(i:Nat):0≤(tk l i).pos∧(tk l i).pos≤n:=by
 by_cases hi:i<l.length;·have A:=h _ (dba hi);rw[← rj hi]at A;have a:=A.pos0;have b:=A.pos1;omega
 ·unfold tk;rw[lq Tf];exact⟨uca _,Sba _⟩
theorem IE(h:∀ t∈l,Fi n t)(G:n≤4000)(s:List UInt8)(M:Int):Tm n (kn l s M):=fun i e p hr=>by
 unfold kn at hr
 cases I:Oh l [123] i with
 |inr q=>rw[I]at hr;cases hr;exact Km h G _ _ _ _ I
 |inl q =>
  rw[I]at hr
  simp only at hr
  cases E:Zp l q.2 with
  |inr H =>
   rw[E]at hr
   cases hr
   unfold Zp at E
   split at E
   ·cases J:fl false l (q.2+1)with
    |inr Q=>rw[J]at E;cases E;exact qq h G _ _ _ _ _ J
    |inl Q=>rw[J]at E;cases E
   ·cases E
  |inl H =>
   rw[E]at hr
   simp only at hr
   cases A:Yl l i H.2 with
   |inl O=>rw[A]at hr;cases hr
   |inr O =>
    rw[A]at hr
    cases hr
    unfold Yl at A
    cases h5:Ij (ej (mi l 12) false l) l (l.length+1 - H.2) H.2 with
    |inr L=>rw[h5]at A;cases A;exact XC (KJ h G (fun b=>ZK h G 12 b) false) _ _ _ _ h5
    |inl L =>
     rw[h5]at A
     simp only at A
     cases h6:Oh l [125] L.2 with
     |inr Y=>rw[h6]at A;cases A;exact Km h G _ _ _ _ h6
     |inl Y =>
      rw[h6]at A
      simp only at A
      split at A
      ·cases A;exact⟨by decide,DI h i⟩
      ·cases A
theorem AJ(h:∀ t∈l,Fi n t)(hn:n≤4000)(j:Nat)(p:lk):Tm n (Qi j l p):=fun i e H hr=>by
 unfold Qi at hr;split at hr
 ·cases A:fl true l (i+1)with
  |inr q=>rw[A]at hr;cases hr;exact qq h hn _ _ _ _ _ A
  |inl r=>rw[A]at hr;cases hr
 split at hr
 ·cases A:fl true l (i+1)with
  |inr q=>rw[A]at hr;cases hr;exact qq h hn _ _ _ _ _ A
  |inl r=>rw[A]at hr;cases hr
 split at hr
 ·cases A:fl false l (i+1)with
  |inr q=>rw[A]at hr;cases hr;exact qq h hn _ _ _ _ _ A
  |inl r=>rw[A]at hr;cases hr
 split at hr
 ·cases A:Th l (i+1)with
  |inr q=>rw[A]at hr;cases hr;exact Us h hn _ _ _ A
  |inl r =>
   rw[A]at hr
   simp only at hr
   cases E:kn l r.1 (tk l (i+1)).pos r.2 with
   |inr q=>rw[E]at hr;cases hr;exact IE h hn _ _ _ _ _ E
   |inl G=>rw[E]at hr;cases hr
 split at hr
 ·split at hr
  ·cases E:kn l [] (tk l i).pos (i+1)with
   |inr q=>rw[E]at hr;cases hr;exact IE h hn _ _ _ _ _ E
   |inl G=>rw[E]at hr;cases hr
  ·exact Df
 ·cases A:Ri l (i+1)with
  |inr q=>rw[A]at hr;cases hr;exact ox h hn _ _ _ A
  |inl r =>
   rw[A]at hr
   simp only at hr
   cases E:Oh l [59] r.2 with
   |inr q=>rw[E]at hr;cases hr;exact Km h hn _ _ _ _ E
   |inl G=>rw[E]at hr;cases hr
theorem JB(h:∀ t∈l,Fi n t)(E:n≤4000)(j:Nat):∀ (g:Nat) (p:lk),Tm n (Ek j l g p)
 |0,p,i,e,G,hr=>by unfold Ek at hr;cases hr
 |g+1,p,i,e,G,hr=>by
  unfold Ek at hr;split at hr
  ·cases A:Qi j l p i with
   |inr q=>rw[A]at hr;cases hr;exact AJ h E j p _ _ _ A
   |inl r=>rw[A]at hr;exact JB h E j g r.1 r.2 e G hr
  ·cases hr
theorem Ky(h:∀ t∈l,Fi n t)(E:n≤4000):∀ (k j:Nat) (p:lk),Tm n (Di l k j p)
 |0,j,p,i,e,G,hr=>by unfold Di at hr;cases hr
 |k+1,j,p,i,e,G,hr=>by
  unfold Di at hr
  cases A:Ek j l (l.length - i) p i with
  |inr q=>rw[A]at hr;cases hr;exact JB h E j _ p _ _ _ A
  |inl r=>rw[A]at hr;exact Ky h E k (j+1) r.1 r.2 e G hr
end
theorem tG(s:List UInt8)(h:¬ (Li s).2.1=0):0≤(Li s).2.2∧(Li s).2.2≤s.length:=by
 unfold Li at h ⊢;by_cases E:s.length≤4000
 ·rw[if_pos E]at h ⊢;have G:=In false s;have hF:=(Wp ((s.drop (li false s)).length+1) (li false s) (s.drop (li false s))).2.2;unfold Nn Ar at h ⊢;rw[List.length_drop]at hF h ⊢;split at h;·exact absurd rfl h
  ·rename_i A;rw[if_neg A];have:=hF A;simp only;omega
 ·rw[if_neg E];exact⟨by show(0:Int)≤4000;decide,by show(4000:Int)≤_;omega⟩
theorem Lq{s:List UInt8}:((Aj s).2.1=0∧Mi (Aj s).1=true∧(Aj s).2.2=0)∨(¬ (Aj s).2.1=0∧(Aj s).1=fj∧0≤(Aj s).2.2∧(Aj s).2.2≤s.length):=by
 unfold Aj;by_cases A:(Li s).2.1=0
 ·rw[if_pos A];have L:s.length≤4000:=by
   by_cases h:s.length≤4000;·exact h
   ·unfold Li at A;rw[if_neg h]at A;exact absurd A Uf
  have I:=(Vn s).2;have J:∀ t∈(Li s).1,Fi 4000 t:=fun t ht=>(I t ht).mono L;unfold eB;cases M:Di (Li s).1 6 0 fj 0 with
  |inr q =>obtain⟨e,p⟩:=q;obtain⟨E,G,H⟩:=Ky I L 6 0 fj _ _ _ M;exact .inr ⟨E,rfl,G,H⟩
  |inl q =>
   obtain⟨p,t⟩:=q;simp only;by_cases ht:t<(Li s).1.length;·rw[if_pos ht];obtain⟨E,G,H⟩:=zt (k:=5) (i:=t) I L Uf rfl;exact .inr ⟨E,rfl,G,H⟩
   ·rw[if_neg ht];exact .inl ⟨rfl,Ys J 6 0 fj 0 p t tu M,rfl⟩
 ·rw[if_neg A];exact .inr ⟨A,rfl,tG s A⟩
theorem Ck{α β:Type}{f:α→α→Bool}{g:α→β}(h:∀ x y,g x=g y→f x y=true):∀ a b:List α,a.map g=b.map g→Yh f a b=true
 | [],[],_=>rfl
 |x::a,[],h=>by cases h
 | [],y::b,h=>by cases h
 |x::a,y::b,e=>by rw[tca,tca]at e;injection e with e1 A;unfold Yh;rw[h x y e1,Ck h a b A];rfl
theorem Bk{α:Type}{f:α→α→Bool}(h:∀ x,f x x=true):∀ a:List α,Yh f a a=true
 | []=>rfl
 |x::a=>by unfold Yh;rw[h x,Bk h a];rfl
theorem mp(pl:Bool):∀ l:List Kh,tj pl l l=true
 | []=>rfl
 |x::l=>by unfold tj;rw[mp pl l];unfold Om;simp
theorem zu(b:Bool):∀ l:List St,Qk b l l=true
 | []=>rfl
 |x::l=>by unfold Qk ji;rw[zu b l,mp,mp];simp
theorem Gr{x y:Xh}(h:xi x=xi y):nj false x y=true:=by unfold xi at h;injection h with A E;unfold nj;rw[A,E];simp
theorem bw{x y:Jt}(h:kj x=kj y):Ak false x y=true:=by unfold kj at h;injection h with A E G;unfold Ak;rw[A,E,dw G];simp
theorem iD{x y:zE}(h:gm x=gm y):Lm false x y=true:=by unfold gm at h;injection h with A;unfold Lm;rw[np _ _ A];rfl
theorem gw{p q:lk}(h:Ni p=Ni q):cm false p q=true:=by unfold Ni at h;injection h with A E G H h5 h6;unfold cm;rw[Ck (fun x y e=>Ck (fun _ _=>Gr) _ _ e) _ _ A,Ck (fun _ _=>Gr) _ _ E,Ck (fun _ _=>Gr) _ _ G,Ck (fun _ _=>bw) _ _ H,Ck (fun _ _=>bw) _ _ h5,Ck (fun _ _=>iD) _ _ h6];rfl
theorem ew(b:Bool)(p:lk):cm b p p=true:=by
 have A:∀ x,nj b x x=true:=fun x=>by unfold nj;simp
 have ht:∀ x,Ak b x x=true:=fun x=>by unfold Ak;rw[zu];simp
 unfold cm;rw[Bk (Bk A),Bk A,Bk A,Bk ht,Bk ht,Bk (fun x=>by unfold Lm;rw[mp];simp)];rfl
theorem ez(l:List Kh):(l.map qi).map qi=l.map qi:=by rw[oda];rfl
theorem gI(x:St):Zh (Zh x)=Zh x:=by unfold Zh;simp only[ez]
theorem ir(p:lk):Ni (Ni p)=Ni p:=by
 have A:∀ l:List Xh,(l.map xi).map xi=l.map xi:=fun l=>by rw[oda];rfl
 have E:∀ x:Jt,kj (kj x)=kj x:=fun x=>by unfold kj;simp only[oda];rw[show Zh ∘ Zh=Zh from funext gI]
 have G:∀ x:zE,gm (gm x)=gm x:=fun x=>by unfold gm;simp only[ez]
 unfold Ni;simp only[oda,A];rw[show kj ∘ kj=kj from funext E,show gm ∘ gm=gm from funext G,show((fun x:List Xh=>nda xi x) ∘ fun x=>nda xi x)=(fun x=>nda xi x)from funext A]
theorem Ex.bare_ok:∀ e:Ex,e.ok→e.bare.ok
 | .leaf x,h=>h
 | .one x a,h=>⟨h.1,a.bare_ok h.2⟩
 | .two x a b,h=>⟨h.1,a.bare_ok h.2.1,b.bare_ok h.2.2⟩
theorem qH{x:Kh}(h:Ci x=true):Ci (qi x)=true:=by
 unfold Ci at h ⊢;split at h;·cases h
 ·rw[if_neg (by show ¬ (decide ((0:Int)<0)||decide ((4000:Int)<0))=true;decide)];exact h
theorem Yp{l:List Kh}(h:Fh l=true):Fh (l.map qi)=true:=by obtain⟨e,I,E,_,A,hm,H⟩:=Dk h;rw[E,← rca,Xp _ (e.bare_ok I),e.bare_len,e.bare_deep,← E];simp only[Raa,decide_eq_true_eq,pda];refine⟨⟨A,fun x G=>?_⟩,H⟩;rw[rca,← E]at G;obtain⟨y,J,rfl⟩:=mda.1 G;exact qH (hm y J)
theorem Fr{a b:List Kh}(ha:Fh a=true)(I:Fh b=true)(h:a.map qi=b.map qi):Ej a=Ej b:=by obtain⟨e,L,J,ht,_⟩:=Dk ha;obtain⟨H,E,A,G,_⟩:=Dk I;unfold Ej;rw[if_pos ha,if_pos I,ht,G];simp only;rw[J,A,← rca,← rca]at h;have:=(Ex.flat_inj _ _ (e.bare_ok L) (H.bare_ok E) [] [] (by rw[Maa,Maa];exact h)).1;rw[← e.bare_show,← H.bare_show,this]
theorem Ny(x:St)(c:UInt8):jj (Zh x) c=jj x c:=rfl
theorem KH{x:St}(h:Pk x):Pk (Zh x):=by
 refine⟨h.k0,h.k1,uca _,by show(0:Int)≤4000;decide,h.r,h.nm,?_,?_,h.t⟩
 ·have:=h.e;rw[Ny];split at this;·rename_i A;rw[if_pos A];exact Yp this
  ·rename_i A;rw[if_neg A];show x.e.map qi=[];rw[this];rfl
 ·have:=h.f;rw[Ny];split at this;·rename_i A;rw[if_pos A];exact Yp this
  ·rename_i A;rw[if_neg A];show x.f.map qi=[];rw[this];rfl
theorem gJ{b:Bool}{l:List St}{d:Nat}(h:Rd b l d):Rd b (l.map Zh) d:=by
 induction h with
 |nil=>exact .nil
 |leaf A E G H I hr ih=>exact .leaf A E G H I ih
 | @ifs b x y z r M Y d A G H O Z hr J L Q =>
  rw[tca,Zaa,Zaa]
  exact .ifs A (by rw[Oca];exact G) (by rw[Oca];exact H) J L Q
 | @loop b x y r M d E G H O hr J L =>
  rw[tca,Zaa]
  exact .loop E (by rw[Oca];exact G) H J L
theorem UA{l:List St}(h:Jj l=true):Jj (l.map Zh)=true:=by obtain⟨A,E,d,G,H⟩:=(Uj l).1 h;refine(Uj _).2 ⟨by rw[Oca];exact A,fun x I=>?_,d,G,gJ H⟩;obtain⟨y,J,rfl⟩:=mda.1 I;exact KH (E y J)
theorem sE{m:Int}{c:Xh}(h:jl m c=true):jl m (xi c)=true:=by obtain⟨A,E,G,_⟩:=Rj.1 h;exact Rj.2 ⟨A,E,G,by show vk 0=true;decide⟩
theorem rq{m:Int}{l:List Xh}(h:yi m l=true):yi m (l.map xi)=true:=by unfold yi at h ⊢;rw[tda,pda];exact fun c A=>sE (pda.1 h c A)
theorem Lv{t:Jt}(h:Xi t=true):Xi (kj t)=true:=by unfold Xi at h ⊢;simp only[Raa]at h ⊢;exact⟨⟨by show vk 0=true;decide,h.1.2⟩,UA h.2⟩
theorem Du{p:lk}(h:Mi p=true):Mi (Ni p)=true:=by
 obtain⟨E,G,H,I,h5,h6,J⟩:=Jk h;refine Hl (fun r hr=>?_) (rq G) (rq H) (by show(p.rcv.map kj).length≤1;rw[Oca];exact I) (fun t ht=>?_) (fun t ht=>?_) (fun c L=>?_);·obtain⟨y,A,rfl⟩:=mda.1 hr;exact⟨by simpa using(E y A).1,rq (E y A).2⟩
 ·obtain⟨y,A,rfl⟩:=mda.1 ht;exact⟨(h5 y A).1,Lv (h5 y A).2⟩
 ·obtain⟨y,A,rfl⟩:=mda.1 ht;exact⟨(h6 y A).1,Lv (h6 y A).2⟩
 ·obtain⟨y,A,rfl⟩:=mda.1 L;exact⟨by show vk 0=true;decide,Yp (J y A).2⟩
theorem uy{x y:St}(w:List UInt8):∀ (cs:List UInt8) (n:Nat),(∀ c∈cs,fm x c=fm y c)→Gp w x cs n=Gp w y cs n
 | [],_,_=>rfl
 |c::r,n,h=>by unfold Gp;rw[h c Yf,uy w r (n+1) (fun d A=>h d (by simp[A]))]
theorem QD{x y:St}(M:Pk x)(O:Pk y)(h:Zh x=Zh y):Lj x=Lj y:=by
 have A:=h;unfold Zh at A;injection A with E I J L h5 h6 Y Z h9;unfold Lj;rw[E];congr 1;refine uy _ _ 0 (fun c G=>?_);have Q:=Uo M c (by rw[E];exact G);have H:=Uo O c G;unfold fm;rcases Q with⟨rfl,a⟩|⟨rfl,a⟩|⟨rfl,a⟩|⟨rfl,a⟩|⟨rfl,a⟩;·rw[if_pos rfl,if_pos rfl,I]
 ·rw[if_neg Uf,if_pos rfl,if_neg Uf,if_pos rfl,J]
 ·rcases H with⟨e,b⟩|⟨e,b⟩|⟨e,b⟩|⟨e,b⟩|⟨e,b⟩;·cases e
  ·cases e
  ·rw[if_neg Uf,if_neg Uf,if_pos rfl,if_neg Uf,if_neg Uf,if_pos rfl];exact Fr a b L
  ·cases e
  ·cases e
 ·rcases H with⟨e,b⟩|⟨e,b⟩|⟨e,b⟩|⟨e,b⟩|⟨e,b⟩;·cases e
  ·cases e
  ·cases e
  ·rw[if_neg Uf,if_neg Uf,if_neg Uf,if_pos rfl,if_neg Uf,if_neg Uf,if_neg Uf,if_pos rfl];exact Fr a b h5
  ·cases e
 ·rw[if_neg Uf,if_neg Uf,if_neg Uf,if_neg Uf,if_neg Uf,if_neg Uf,if_neg Uf,if_neg Uf,h6]
theorem Pm:∀ (f:Nat) (A:List UInt8) (l m:List St),(∀ x∈l,Pk x)→(∀ x∈m,Pk x)→l.map Zh=m.map Zh→aj f A l=aj f A m
 |f,A,[],[],_,_,_=>rfl
 |f,A,x::r,[],_,_,h=>by cases h
 |f,A,[],y::s,_,_,h=>by cases h
 |0,A,x::r,y::s,_,_,h=>by unfold aj;rfl
 |f+1,A,x::r,y::s,J,L,h=>by rw[tca,tca]at h;injection h with I G;have hr:∀ z∈r,Pk z:=fun z E=>J z (lda _ E);have H:∀ z∈s,Pk z:=fun z E=>L z (lda _ E);have Q:=QD (J x Yf) (L y Yf) I;unfold Zh at I;injection I with e1 _ _ _ _ _ M O _;have Y:∀ A n,aj f A (r.take n)=aj f A (s.take n):=fun A n=>Pm f A _ _ (fun z E=>hr z (uda E)) (fun z E=>H z (uda E)) (by rw[vda,vda,G]);have Z:∀ A n k,aj f A ((r.drop n).take k)=aj f A ((s.drop n).take k):=fun A n k=>Pm f A _ _ (fun z E=>hr z (wda (uda E))) (fun z E=>H z (wda (uda E))) (by rw[vda,vda,xda,xda,G]);have i3:∀ A n,aj f A (r.drop n)=aj f A (s.drop n):=fun A n=>Pm f A _ _ (fun z E=>hr z (wda E)) (fun z E=>H z (wda E)) (by rw[xda,xda,G]);have i4:∀ A,aj f A r=aj f A s:=fun A=>Pm f A r s hr H G;unfold aj;rw[e1,M,O,Q,Y,Z,i3,i4]
theorem bK{l m:List St}(A:List UInt8)(H:Jj l=true)(hm:Jj m=true)(h:l.map Zh=m.map Zh):Wm A l=Wm A m:=by obtain⟨_,E,_⟩:=(Uj l).1 H;obtain⟨_,G,_⟩:=(Uj m).1 hm;unfold Wm;rw[Oo h];exact Pm _ _ _ _ E G h
theorem To{α β γ:Type}{g:α→β}{f:α→List γ}:∀ (a b:List α),(∀ x∈a,∀ y∈b,g x=g y→f x=f y)→a.map g=b.map g→a.flatMap f=b.flatMap f
 | [],[],_,_=>rfl
 |x::a,[],_,h=>by cases h
 | [],y::b,_,h=>by cases h
 |x::a,y::b,A,h=>by rw[tca,tca]at h;injection h with E G;rw[baa,baa,A x Yf y Yf E,To a b (fun u H v I=>A u (lda _ H) v (lda _ I)) G]
theorem YH{a b:List Xh}(h:a.map xi=b.map xi):a.map sk=b.map sk:=by
 have:∀ l:List Xh,l.map sk=(l.map xi).map sk:=fun l=>by rw[oda];rfl
 rw[this,h,← this]
theorem dz{x y:Jt}{G:List UInt8}(A:Xi x=true)(E:Xi y=true)(h:kj x=kj y):Xo G x=Xo G y:=by unfold kj at h;injection h with J H I;unfold Xi at A E;simp only[Raa]at A E;unfold Xo;rw[H,bK [32,32] A.2 E.2 I]
theorem WC{p q:lk}(Z:Mi p=true)(hq:Mi q=true)(h:Ni p=Ni q):Ml p=Ml q:=by
 obtain⟨_,_,_,_,p5,p6,p7⟩:=Jk Z;obtain⟨_,_,_,_,q5,q6,q7⟩:=Jk hq;unfold Ni at h;injection h with Q I J Y h5 h6;have L:∀ {a b:List Xh},a.map xi=b.map xi→(a=[] ↔ b=[]):=fun {a b} e=>by have:=congrArg List.length e;rw[Oca,Oca]at this;rw[← yda,← yda,this]
 have A:∀ (w:List UInt8) {a b:List Xh},a.map xi=b.map xi→dl w a=dl w b:=fun w a b e=>by unfold dl;rw[YH e]
 unfold Ml;have M:p.thrs.flatMap Hv=q.thrs.flatMap Hv:=To _ _ (fun x E y G e=>by
  have H:x.name=y.name:=by unfold kj at e;injection e
  unfold Hv;rw[H,dz (p5 x E).2 (q5 y G).2 e]) Y
 have O:p.clms.flatMap sr=q.clms.flatMap sr:=To _ _ (fun x E y G e=>by unfold gm at e;injection e with e;unfold sr;rw[Fr (p7 x E).2 (q7 y G).2 e]) h6;rw[To p.lines q.lines (fun x _ y _ e=>A _ e) Q,A (pw 1) I,A (pw 2) J,M,To p.rcv q.rcv (fun x E y G e=>dz (p6 x E).2 (q6 y G).2 e) h5,O];simp only[L I,L J]
def Px(s:List UInt8):List UInt8:=(Kj s).flatMap (fun x=>[32,32]++x)
theorem mK:Px []=[]:=rfl
theorem wm{y:List UInt8}(h:10 ∉ y)(q:List UInt8):Px (y++([10]++q))=[32,32]++(y++[10])++Px q:=by unfold Px Kj;rw[show y++([10]++q)=y++10::q from rfl,Pr y [] q h,baa,Yaa]
theorem pi{a b:List UInt8}(ha:10 ∉ a)(A:10 ∉ b):10 ∉ a++b:=fun h=>(vca.1 h).elim ha A
theorem EB{p:UInt8→Bool}(E:p 10=false){s:List UInt8}(h:s.all p=true):10 ∉ s:=fun A=>by have:=pda.1 h 10 A;rw[E]at this;cases this
theorem Pq{s:List UInt8}(h:Hh s=true):10 ∉ s:=by obtain⟨c,r,rfl,_,A,_⟩:=jm h;exact EB (p:=Xm) Uf A
theorem By{n:Int}(h:0≤n):10 ∉ Paa n:=by rw[Yw h];exact EB (p:=Ph) Uf (pv _ _ (aaa _)).1
theorem kF(op:Nat):10 ∉ sg op:=by
 by_cases h:op<16;·revert op;decide
 ·unfold sg oG;rw[lq Ag];simp
theorem Ow(a:Ex){s:List UInt8}(h:10 ∉ s):10 ∉ a.brk s:=by
 cases a with
 |leaf x=>exact h
 |one x a=>exact h
 |two x a b =>
  intro A
  rcases Aaa.1 A with A|A
  ·exact absurd A Uf
  ·exact pi h Uf A
theorem Oq:∀ e:Ex,e.ok→e.may→10 ∉ e.show
 | .leaf x,A,hm=>by
  unfold Ex.show;have E:Ci x=true:=hm x Fg;rcases Nj.1 A with h|h;·rw[if_pos h];exact By (Al E h).2.1
  ·rw[if_neg Tf];exact Pq (Mn E h).2
 | .one x a,A,hm=>by unfold Ex.show;exact pi (kF _) (Ow a (Oq a A.2 (Ex.may_one hm).2))
 | .two x a b,A,hm=>by unfold Ex.show;exact pi (pi (pi (pi (Ow a (Oq a A.2.1 (Ex.may_two hm).2.1)) Uf) (kF _)) Uf) (Ow b (Oq b A.2.2 (Ex.may_two hm).2.2))
theorem Cy(l:List Kh):10 ∉ Ej l:=by
 unfold Ej;by_cases h:Fh l=true;·obtain⟨e,E,A,ht,_,hm,_⟩:=Dk h;rw[if_pos h,ht];exact Oq e E (by rw[A]at hm;exact hm)
 ·rw[if_neg h];simp
theorem oH{x:St}{c:UInt8}(h:Vr x c):10 ∉ fm x c:=by
 unfold fm;rcases h with⟨rfl,h⟩|⟨rfl,h⟩|⟨rfl,h⟩|⟨rfl,h⟩|⟨rfl,h⟩;·exact Pq h
 ·exact Pq h
 ·exact Cy _
 ·exact Cy _
 ·exact By Tf
theorem DB(w:List UInt8)(x:St):∀ (cs:List UInt8) (n:Nat),(∀ c∈cs,Vr x c)→10 ∉ Gp w x cs n
 | [],_,_=>by unfold Gp;simp
 |c::r,n,h=>by
  unfold Gp;refine pi ?_ (pi (oH (h c Yf)) (DB w x r (n+1) (fun d A=>h d (by simp[A]))));unfold As;split;·split<;>decide
  ·split<;>decide
theorem nH(k:Nat):10 ∉ Ai k:=by
 by_cases h:k<15;·revert k;decide
 ·unfold Ai DE;rw[lq Ag];simp
theorem cu{x:St}(h:Pk x):10 ∉ Lj x:=pi (nH _) (DB _ _ _ _ (fun c A=>Uo h c A))
theorem EO{l:List St}{E t:List UInt8}(h:Ln l E t):(∀ x∈l,Pk x)→10 ∉ E→∃ M,Ln l ([32,32]++E) M∧∀ q,Px (t++q)=M++Px q:=by
 induction h with
 |nil=>exact fun _ _=>⟨[],.nil,fun q=>rfl⟩
 | @leaf x r E t Q Y hr ih =>
  intro G A
  obtain⟨M,I,J⟩:=ih (fun y hy=>G y (lda _ hy)) A
  refine⟨_,.leaf Q Y I,fun q=>?_⟩
  have L:10 ∉ E++(Lj x++[59]):=pi A (pi (cu (G x Yf)) Uf)
  have:=wm L (t++q)
  rw[J]at this
  simpa[Np,oca]using this
 | @one x y r E u t hk hb he hy hr i1 i2 =>
  intro G A
  obtain⟨u',I,J⟩:=i1 (fun z hz=>G z Qg) (pi A Uf)
  obtain⟨M,Z,h4⟩:=i2 (fun z hz=>G z Qg) A
  refine⟨_,.one hk hb he (by rw[oca];exact I) Z,fun q=>?_⟩
  have L:10 ∉ E++(Lj x++[32,123]):=pi A (pi (cu (G x Yf)) Uf)
  have e1:=wm L (u++((E++[125])++([10]++(t++q))))
  have H:10 ∉ E++[125]:=pi A Uf
  have O:=wm H (t++q)
  rw[J,O,h4]at e1
  simpa[El,bm,oca]using e1
 | @two x y z r E u v t hk hb he af hy hz hr i1 i2 i3 =>
  intro G A
  obtain⟨u',I,J⟩:=i1 (fun z hz=>G z Qg) (pi A Uf)
  obtain⟨v',h5,h6⟩:=i2 (fun z hz=>G z Qg) (pi A Uf)
  obtain⟨M,Z,h4⟩:=i3 (fun z hz=>G z Qg) A
  refine⟨_,.two hk hb he af (by rw[oca];exact I) (by rw[oca];exact h5) Z,fun q=>?_⟩
  have L:10 ∉ E++(Lj x++[32,123]):=pi A (pi (cu (G x Yf)) Uf)
  have e1:=wm L (u++((E++[125,32,101,108,115,101,32,123])++([10]++(v++((E++[125])++([10]++(t++q)))))))
  have H:10 ∉ E++[125]:=pi A Uf
  have ad:10 ∉ E++[125,32,101,108,115,101,32,123]:=pi A Uf
  have O:=wm H (t++q)
  have e3:=wm ad (v++((E++[125])++([10]++(t++q))))
  rw[J,e3,h6,O,h4]at e1
  simpa[El,bm,Pp,oca]using e1
theorem ZB{l:List St}(h:Jj l=true):Px (Wm [] l)=Wm [32,32] l:=by obtain⟨_,A,d,_,E⟩:=(Uj l).1 h;obtain⟨I,G,H⟩:=EO (ko E []) A Yf;have:=H [];rw[Maa,mK,Maa]at this;rw[this];exact(fu G).symm
theorem Ay:∀ l:List (List UInt8),(∀ x∈l,10 ∉ x)→10 ∉ Wj l
 | [],_=>by unfold Wj;simp
 | [x],h=>h x Yf
 |x::y::r,h=>pi (h x Yf) (pi Uf (Ay (y::r) (fun z A=>h z (lda _ A))))
noncomputable def yx(t:Jt):List UInt8:=(if t.regs=[]then []else dl yk (t.regs.map Gs))++Wm [] t.body
theorem uF{t:Jt}(h:Xi t=true):Px (yx t)=Fu t.regs++Wm [32,32] t.body:=by
 unfold Xi at h;simp only[Raa,pda]at h;unfold yx Fu;by_cases A:t.regs=[];·rw[if_pos A,if_pos A,Yaa,Yaa,ZB h.2]
 ·rw[if_neg A,if_neg A];have G:10 ∉ yk++([32]++(Wj ((t.regs.map Gs).map sk)++[59])):=by refine pi Uf (pi Uf (pi (Ay _ (fun x E=>?_)) Uf));rw[oda]at E;obtain⟨s,H,rfl⟩:=mda.1 E;show 10 ∉ s++[];rw[Maa];exact Pq (h.1.2 s H)
  have:=wm G (Wm [] t.body);rw[ZB h.2]at this;simpa[dl,Np,oca]using this
end Go.Proofs.YtjcihcncljihoaaGreatDoor

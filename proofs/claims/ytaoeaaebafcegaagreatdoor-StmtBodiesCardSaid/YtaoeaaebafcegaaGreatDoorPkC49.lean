/- Chapter 04 (statements), joined: EnvA, SchOff, SchApp, StCut, StLwA, ArgS. -/
import Derived.Test.YtaoeaaebafcegaaGreatDoorPkA45
import Derived.Test.YtaoeaaebafcegaaGreatDoorCards
import Derived.Test.YtaoeaaebafcegaaGreatDoorChecked
import Derived.Test.YtaoeaaebafcegaaGreatDoorTie
import Derived.ChangeSame
import Derived.Deep.DeepHandedRow
import Derived.Deep.Fields
import Derived.Deep.Slices
import Derived.LaidMore
import Derived.LaidSub
import Derived.OpenShut
import Derived.ProofKit
import Derived.Shelf.Vars
set_option maxRecDepth 100000
set_option maxHeartbeats 16000000
namespace Go.Proofs.YtaoeaaebafcegaaGreatDoor
open Go Go.ChangeShapes Go.WideShapes Go.ChangeAt Go.RowKit
set_option linter.unusedVariables false
theorem laidOut:laidOutB Tryz.prog=true:=by kernel_rfl
end Go.Proofs.YtaoeaaebafcegaaGreatDoor
namespace Go.Proofs.YtaoeaaebafcegaaGreatDoor
open Go Go.ChangeShapes Go.WideShapes Go.Deep Go.RowKit
set_option linter.unusedVariables false
end Go.Proofs.YtaoeaaebafcegaaGreatDoor
namespace Go.Proofs.YtaoeaaebafcegaaGreatDoor
open Go Go.RowKit
set_option linter.unusedVariables false
theorem off_own {S:Nat→Prop} {w:World} {base:Nat} {e:TypeId} {v:Value} {size n:Nat} {xs:List Value} (h:w.ownsRow base e size v n xs) (hS:∀ k,v.ownBlock=some k→¬ S k):Off S w (fun u=>SlN u v size n xs):=fun w' h1 h2=>by
 have hs:=sl_of_own h
 obtain ⟨hl,A,c,hv,hc,hf⟩:=hs
 refine ⟨hl,A,c,hv,hc,fun h0=>?_⟩
 obtain ⟨b,off,hA,hlt,hcell⟩:=hf h0
 refine ⟨b,off,hA,Nat.lt_of_lt_of_le hlt h1,fun j u hj=>?_⟩
 have hb:v.ownBlock=some b:=by rw [hv,hA];rfl
 exact (World.cell?_of_block (a:=⟨b,off+j,none⟩) (h2 b hlt (hS b hb))).trans (hcell j u hj)
def Old (n:Nat):Nat→Prop:=fun k=>k < n
theorem wpl_appO {P:Program} {w:World} {ops:Array Oper} {rest:List Oper} {o:Oper} {a:Act} {Q:Exit→Act→World→Prop} (hgd:o.guard=none) (s x:Operand) (t:TypeId)
 (ho:o.op = .call { callee:=.builtin .append,args:=#[s,x],argTypes:=#[t,t] })
 (base:Nat) (e:TypeId) (i:TypeInfo) (z:Value) (size bytes:Nat) (ht:P.underlying t=some (.slice e)) (hi:P.info? e=some i) (hz:i.zero=some z)
 (hsize:i.size=size) (hby:i.bytes=bytes) (hzs:z.cells.size=size) (hsz:0 < size)
 (v:Value) (n:Nat) (xs:List Value) (hs:a.eval s=v) (hown:w.ownsRow base e size v n xs)
 (u:Value) (m:Nat) (news:List Value) (hx:a.eval x=u) (hu:SlN w u size m news) (h1:∀ u∈news,u.oneCell' = true)
 (h63:n+m≤maxLen) (hbytes:(n+m)*bytes≤140737488355328) (hbase:base≤w.heap.size)
 (h:∀ v' w',w'.ownsRow base e size v' (n+m) (xs++news)→Below base w w'→w.grownBy w' v.ownBlock→(v'.ownBlock=v.ownBlock∨v'.ownBlock=some w.heap.size)→wpList P ops Q rest (a.put o.dst v') w'):wpList P ops Q (o :: rest) a w:=by
 obtain ⟨hl,A,c,rfl,hc,hf⟩:=hu
 have hgo:∀ (ad:Addr),A=some ad→(∀ j x,news[j]? = some x→w.cell? (ad.add j)=some x)→wpList P ops Q (o :: rest) a w:=fun ad hA hnews=>by
  subst hA
  refine wpList_append_own_at w hgd s x t ho base e i z size bytes ht hi hz hsize hby hzs hsz v n xs hs hown ad m c news hx hl hnews h1 h63 hbytes hbase ?_
  intro v' w' h2 h3 _ h5
  exact h v' w' h2 ((Below.refl _ _).grown h3 hbase (fun g hg=>(hown.lt g hg).1)) h3 h5
 by_cases hm:0 < m
 ·obtain ⟨b,off,hA,hlt,hcell⟩:=hf hm
  refine hgo _ hA fun j x hj=>?_
  have:=hcell j x hj
  have e:(⟨b,off,none⟩:Addr).add j=⟨b,off+j,none⟩:=by
   unfold Addr.add
   split
   ·rename_i h0;subst h0;rfl
   ·rfl
  rw [e];exact this
 ·obtain rfl:m=0:=by omega
  obtain rfl:news = []:=List.eq_nil_of_length_eq_zero (by rw [hl];omega)
  cases A with
  | some ad=>exact hgo ad rfl (by simp)
  | none =>
    refine wpList_plain hgd fun K hK=>?_
    have hrun:=run_app_none (P:=P) w base t o.type e i size ht hi v n c xs hown
    unfold Oper.wp
    simp [execOp,ho,resolve,invoke,builtin,hs,hx,hrun,Result.andThen]
    refine hK _ _ (h v w ?_ (Below.refl _ _) ⟨rfl,rfl,rfl,Nat.le_refl _,fun _ _ _=>rfl⟩ (.inl rfl))
    simpa using hown
def cutN (x:Nod):Nod:=⟨x.op,x.n,x.name.take 40,x.pos⟩
def cutL (l:List Nod):List Nod:=(l.take 60).map cutN
theorem cutL_len (l:List Nod):(cutL l).length≤60:=by unfold cutL;rw [List.length_map,List.length_take];omega
theorem cutL_names (l:List Nod):∀ x∈cutL l,x.name.length≤1000000:=fun x hx=>by
 unfold cutL at hx
 obtain ⟨y,_,rfl⟩:=List.mem_map.1 hx
 show (y.name.take 40).length≤_
 rw [List.length_take];omega
theorem str_cut (s:List UInt8):(str s).extract 0 (min ((str s).size:Int) 40).toNat=str (s.take 40):=by
 apply ByteArray.ext
 rw [ByteArray.data_extract]
 apply Array.ext'
 rw [str_size]
 simp only [str,Array.toList_extract,List.toList_toArray]
 show (s.take (min (s.length:Int) 40).toNat).drop 0=_
 rw [List.drop_zero]
 by_cases h:s.length≤40
 ·rw [List.take_of_length_le (by omega),List.take_of_length_le h]
 ·congr 1;omega
theorem sl_litN (w:World) (S:Obj) (x:Nod):SlN ((w.alloc S).alloc (.cells #[.int .i64 x.op,.int .i64 x.n,.string (str x.name),.int .i64 x.pos] 33)) (.slice (some ⟨w.heap.size+1,0,none⟩) 1 1) 4 1 ([x].flatMap Nod.cells):=by
 have:=sl_lit (w.alloc S) (Nod.cells x) 33 4 1 1 rfl (Nat.le_refl _)
 rw [World.size_alloc] at this
 rw [show [x].flatMap Nod.cells=Nod.cells x by simp]
 exact this
theorem cut_take (l:List Nod) (j:Nat) (h:j < l.length):(l.take (j+1)).map cutN=(l.take j).map cutN++[cutN l[j]]:=by
 rw [List.take_succ_eq_append_getElem h,List.map_append];rfl
theorem own_emptyC (w:World) (t:TypeId) (size:Nat) (hs:0 < size):(w.alloc (.cells #[] t)).ownsRow w.heap.size t size (.slice (some ⟨w.heap.size,0,none⟩) 0 0) 0 [] :=
 World.ownsRow_lit w #[] 0 (Nat.le_refl _) (Nat.zero_le _) (by simp)
theorem CutN_c (l : List Nod) (hl : l.length ≤ 9223372036854775807) (hn : ∀ x ∈ l, x.name.length ≤ 9223372036854775807) (v : Value) (w : World) (hv : Nods w v l) :
    Calls Tryz.prog 29 #[v] w fun e w' => ∃ A c, e = .returned (.slice A (cutL l).length c) ∧ Off (Old w.heap.size) w' (fun u => Nods u (.slice A (cutL l).length c) (cutL l)) ∧ Below w.heap.size w w' := by
  obtain ⟨i0, hi0, hz0, hz1, hz2⟩ := info_parts info_nod
  obtain ⟨A0, c0, rfl, hc0⟩ := hv.shape
  have HV := Lib.hid hv
  have HE0 := Lib.hid (own_emptyC w 33 4 (by decide))
  have HFIN : Hid (∀ (q : List Nod) (A : Option Addr) (c : Nat) (w' : World), q = cutL l → w'.ownsRow w.heap.size 33 4 (.slice A q.length c) q.length (q.flatMap Nod.cells) → Below w.heap.size w w' → ∃ A2 c2, Ending.returned (.slice A q.length c) = .returned (.slice A2 (cutL l).length c2) ∧ Off (Old w.heap.size) w' (fun u => Nods u (.slice A2 (cutL l).length c2) (cutL l)) ∧ Below w.heap.size w w') := fun q A c w' hq ho hb => by
    subst hq
    exact ⟨A, c, rfl, off_own ho (fun k hk hS => by have := (ho.lt k hk).1; have : k < w.heap.size := hS; omega), hb⟩
  clear hv
  generalize hPost : (fun (e : Ending) (w' : World) => ∃ A c, e = .returned (.slice A (cutL l).length c) ∧ Off (Old w.heap.size) w' (fun u => Nods u (.slice A (cutL l).length c) (cutL l)) ∧ Below w.heap.size w w') = Post
  have HP2 : Hid (∀ (q : List Nod) (n : Nat) (A : Option Addr) (c : Nat) (w' : World), q = cutL l → n = q.length → w'.ownsRow w.heap.size 33 4 (.slice A n c) n (q.flatMap Nod.cells) → Below w.heap.size w w' → Post (.returned (.slice A n c)) w') := fun q n A c w' h1 h0 h2 h3 => by rw [← hPost]; subst h0; exact HFIN.out q A c w' h1 h2 h3
  clear hPost HFIN
  go_enter Tryz.func29, Tryz.ntmps29
  go_wp2_with fail
  go_loopw [3, 4] (fun out k wr => ∃ j : Nat, j ≤ l.length ∧ j ≤ 60 ∧ k = .int .i64 j ∧ (∃ A c, out = .slice A j c) ∧ wr.ownsRow w.heap.size 33 4 out j (((l.take j).map cutN).flatMap Nod.cells) ∧ Below w.heap.size w wr) (fun _ k _ => 60 - (intOf k).toNat)
  case atStart => exact ⟨0, Nat.zero_le _, by omega, rfl, ⟨_, _, rfl⟩, HE0.out, al _ _⟩
  case round =>
    obtain ⟨j, hj, hj60, rfl, ⟨A, cc, rfl⟩, hown, hb⟩ := hrel
    have HOWN := Lib.hid hown
    have HB := Lib.hid hb
    have HSZ := Lib.hid hb.size
    have hj0 : (0 : Int) ≤ (j : Int) := Int.natCast_nonneg _
    by_cases hjl : j < l.length
    · have hjl2 : (j : Int) < (l.length : Int) := by omega
      by_cases hj6 : j < 60
      · have hj62 : (j : Int) < 60 := by omega
        obtain ⟨b, off, c, hE0, hcc, hbt, hat⟩ := Nods.at_ (l := l) HV.out (by omega)
        cases hE0
        have x1 := hat j hjl
        have hx0 := (hb.cell (p := ⟨_, _, none⟩) hbt).trans x1.op
        have hx1 := (hb.cell (p := ⟨_, _, none⟩) hbt).trans x1.n
        have hx2 := (hb.cell (p := ⟨_, _, none⟩) hbt).trans x1.name
        have hx3 := (hb.cell (p := ⟨_, _, none⟩) hbt).trans x1.pos
        have HS := Lib.hid (cut_take l j hjl)
        have hnz := hn _ (List.getElem_mem hjl)
        have hsc := str_cut (l[j]).name
        have HT4 : Hid (j + 1 ≤ maxLen ∧ (j + 1) * 40 ≤ 140737488355328) := by show _ ∧ _; unfold maxLen; constructor <;> omega
        have HLEN : Hid (((l.take j).map cutN).length = j) := by show _ = _; rw [List.length_map, List.length_take]; omega
        clear hb hat x1 hown
        generalize l[j] = x at hx0 hx1 hx2 hx3 HS hnz hsc
        generalize (l.take j).map cutN = ps at HS HOWN HLEN
        have hzz : (str x.name).size ≤ 9223372036854775807 := by rw [str_size]; exact hnz
        go_wp2_with (first
          | (at_builtin; refine wpl_app rfl _ _ 29 rfl w.heap.size 33 i0 _ 4 40 Tryz.underlying29 hi0 hz0 hz1 hz2 rfl (by decide) (.slice A j cc) j (ps.flatMap Nod.cells) rfl (own_below HOWN.out (balloc (al wr _) _)) (.slice (some ⟨wr.heap.size + 1, 0, none⟩) 1 1) 1 ([cutN x].flatMap Nod.cells) rfl (sl_litN wr _ (cutN x)) (nod_one _) HT4.out.1 HT4.out.2 (Nat.le_trans HSZ.out (Nat.le_trans (al wr _).size (al _ _).size)) ?_; intro v6 w6 hown6 hb6; obtain ⟨A6, c6, rfl⟩ := own_shape hown6; have hB6 := btB (btB HB.out (balloc (al wr _) _) HSZ.out) hb6 (Nat.le_refl _)))
        go_roundw
        case rel =>
          refine ⟨j + 1, by omega, by omega, by go_num, ⟨A6, c6, rfl⟩, ?_, hB6⟩
          rw [HS.out, List.flatMap_append]
          exact hown6
        case measure => simp [intOf]; omega
      · have hj62 : ¬ ((j : Int) < 60) := by omega
        obtain rfl : j = 60 := by omega
        go_wp2_with fail
        exact HP2.out ((l.take 60).map cutN) 60 _ _ _ rfl (by rw [List.length_map, List.length_take]; omega) HOWN.out HB.out
    · have hje : Hid (j = l.length) := by show _ = _; omega
      have hjl2 : ¬ ((j : Int) < (l.length : Int)) := by omega
      have HC : Hid (cutL l = (l.take j).map cutN) := by
        show _ = _
        unfold cutL
        rw [List.take_of_length_le (by have := hje.out; omega), List.take_of_length_le (by omega)]
      go_wp2_with fail
      exact HP2.out ((l.take j).map cutN) j _ _ _ HC.out.symm (by rw [List.length_map, List.length_take]; have := hje.out; omega) HOWN.out HB.out
def cutS (x:St):St:=⟨x.kind,x.reg.take 40,x.name.take 40,cutL x.e,cutL x.f,x.n,x.body,x.els,x.pos⟩
def cutSs (l:List St):List St:=(l.take 50).map cutS
theorem cutSs_len (l:List St):(cutSs l).length≤50:=by unfold cutSs;rw [List.length_map,List.length_take];omega
theorem cutS_B (x:St):SvB (cutS x):=⟨by show (x.reg.take 40).length≤_;rw [List.length_take];omega,by show (x.name.take 40).length≤_;rw [List.length_take];omega,by have:=cutL_len x.e;show (cutL x.e).length≤_;omega,by have:=cutL_len x.f;show (cutL x.f).length≤_;omega,cutL_names x.e,cutL_names x.f⟩
theorem cutSs_take (l:List Sv) (j:Nat) (h:j < l.length):(l.take (j+1)).map (fun x=>cutS x.s)=(l.take j).map (fun x=>cutS x.s)++[cutS (l[j]).s]:=by
 rw [List.take_succ_eq_append_getElem h,List.map_append];rfl
structure SvA (x:St):Prop where
 r:x.reg.length≤9223372036854775807
 nm:x.name.length≤9223372036854775807
 e:x.e.length≤9223372036854775807
 f:x.f.length≤9223372036854775807
 en:∀ y∈x.e,y.name.length≤9223372036854775807
 fn:∀ y∈x.f,y.name.length≤9223372036854775807
theorem sl_litS (U:World) (x:Sv):SlN (U.alloc (.cells #[.int .i64 x.s.kind,.string (str x.s.reg),.string (str x.s.name),x.ev,x.fv,.int .i64 x.s.n,.int .i64 x.s.body,.int .i64 x.s.els,.int .i64 x.s.pos] 31)) (.slice (some ⟨U.heap.size,0,none⟩) 1 1) 9 1 ([x].flatMap Sv.cells):=by
 have:=sl_lit U (Sv.cells x) 31 9 1 1 rfl (Nat.le_refl _)
 rw [show [x].flatMap Sv.cells=Sv.cells x by simp]
 exact this
def CutP (l:List Sv) (w:World) (e:Ending) (w':World):Prop:=∃ (q:List Sv) (A:Option Addr) (c:Nat),e = .returned (.slice A q.length c)∧q.map (·.s)=cutSs (l.map (·.s))∧Svs w' (.slice A q.length c) q∧Below w.heap.size w w'
theorem cutP_of {l q:List Sv} {w w':World} {A:Option Addr} {c:Nat} (h1:q.map (·.s)=cutSs (l.map (·.s))) (h2:SOwn (fun _=>False) w.heap.size w' (.slice A q.length c) q) (h3:Below w.heap.size w w'):CutP l w (.returned (.slice A q.length c)) w' :=
 ⟨q,A,c,rfl,h1,⟨sl_of_own h2.own,fun x hx=>(h2.nods x hx).now⟩,h3⟩
theorem CutS_c (l : List Sv) (hl : l.length ≤ 9223372036854775807) (hn : ∀ x ∈ l, SvA x.s) (v : Value) (w : World) (hv : Svs w v l) :
    Calls Tryz.prog 15 #[v] w (CutP l w) := by
  obtain ⟨i0, hi0, hz0, hz1, hz2⟩ := info_parts info_stmt
  obtain ⟨A0, c0, rfl, hc0⟩ := hv.shape
  have HV := Lib.hid hv
  have HN := Lib.hid hn
  have HE0 := Lib.hid (own_emptyC w 31 9 (by decide))
  have HP : Hid (∀ (q : List Sv) (n : Nat) (A : Option Addr) (c : Nat) (w' : World), q.map (·.s) = cutSs (l.map (·.s)) → n = q.length → SOwn (fun _ => False) w.heap.size w' (.slice A n c) q → Below w.heap.size w w' → CutP l w (.returned (.slice A n c)) w') := fun q n A c w' h1 h0 h2 h3 => by subst h0; exact cutP_of h1 h2 h3
  clear hv hn
  generalize CutP l w = Post at HP ⊢
  go_enter Tryz.func15, Tryz.ntmps15
  go_wp2_with fail
  go_loopw [3, 4] (fun out k wr => ∃ (j : Nat) (q : List Sv) (A : Option Addr) (c : Nat), j ≤ l.length ∧ j ≤ 50 ∧ k = .int .i64 j ∧ out = .slice A q.length c ∧ q.length = j ∧ Hid (q.map (·.s) = (l.take j).map (fun x => cutS x.s)) ∧ SOwn (fun _ => False) w.heap.size wr (.slice A q.length c) q ∧ Below w.heap.size w wr) (fun _ k _ => 50 - (intOf k).toNat)
  case atStart => exact ⟨0, [], _, _, Nat.zero_le _, by omega, rfl, rfl, rfl, rfl, ⟨HE0.out, by simp⟩, al _ _⟩
  case round =>
    obtain ⟨j, q, A, cc, hj, hj50, rfl, rfl, hql, HMAP, hown, hb⟩ := hrel
    have HOWN := Lib.hid hown
    have HB := Lib.hid hb
    have HSZ : Hid (w.heap.size ≤ wr.heap.size) := hb.size
    have hj0 : (0 : Int) ≤ (j : Int) := Int.natCast_nonneg _
    have HT4 : Hid (q.length + 1 ≤ maxLen ∧ (q.length + 1) * 120 ≤ 140737488355328) := by show _ ∧ _; unfold maxLen; constructor <;> omega
    have HQL := Lib.hid hql
    clear hown hql
    by_cases hjl : j < l.length
    · have hjl2 : (j : Int) < (l.length : Int) := by omega
      by_cases hj6 : j < 50
      · have hj62 : (j : Int) < 50 := by omega
        obtain ⟨b, off, c, hE0, hcc, hbt, hat⟩ := HV.out.at_ (by omega)
        cases hE0
        have hx := (hat j hjl).below hb hbt
        have HNX := Lib.hid (HV.out.2 _ (List.getElem_mem hjl))
        have HAX := Lib.hid (HN.out _ (List.getElem_mem hjl))
        have HS : Hid (q.map (·.s) ++ [cutS (l[j]).s] = (l.take (j + 1)).map (fun x => cutS x.s)) := by show _ = _; rw [cutSs_take l j hjl, HMAP.out]
        clear hb hat HMAP
        generalize l[j] = x at hx HNX HAX HS
        obtain ⟨⟨kind, reg, name, xe, xf, n, body, els, pos⟩, ev, fv⟩ := x
        obtain ⟨hx0, hx1, hx2, hx3, hx4, hx5, hx6, hx7, hx8⟩ := hx
        have hnx := HNX.out
        have hax := HAX.out
        dsimp only at hnx hx0 hx1 hx2 hx3 hx4 hx5 hx6 hx7 hx8 hax HS
        have z1 : (str reg).size ≤ 9223372036854775807 := by rw [str_size]; exact hax.r
        have z2 : (str name).size ≤ 9223372036854775807 := by rw [str_size]; exact hax.nm
        have HC3 : Hid (∀ u, Below wr.heap.size wr u → Calls Tryz.prog 29 #[ev] u fun e w' => ∃ A c, e = .returned (.slice A (cutL xe).length c) ∧ Off (Old u.heap.size) w' (fun u => Nods u (.slice A (cutL xe).length c) (cutL xe)) ∧ Below u.heap.size u w') := fun u hu => CutN_c xe hax.e hax.en ev u (SlN.below (SlN.below hnx.1 HB.out) hu)
        have HC4 : Hid (∀ u, Below wr.heap.size wr u → Calls Tryz.prog 29 #[fv] u fun e w' => ∃ A c, e = .returned (.slice A (cutL xf).length c) ∧ Off (Old u.heap.size) w' (fun u => Nods u (.slice A (cutL xf).length c) (cutL xf)) ∧ Below u.heap.size u w') := fun u hu => CutN_c xf hax.f hax.fn fv u (SlN.below (SlN.below hnx.2 HB.out) hu)
        obtain ⟨A5, c5, rfl, _⟩ := Nods.shape hnx.1
        obtain ⟨A6, c6, rfl, _⟩ := Nods.shape hnx.2
        have hs1 := str_cut reg
        have hs2 := str_cut name
        clear hnx HNX hax HAX
        go_upto_region 8 with fail
        have HSB : Hid (SB (wr.alloc (.cells #[.int .i64 kind, .string (str (reg.take 40)), .string (str (name.take 40)), .slice A5 xe.length c5, .slice A6 xf.length c6, .int .i64 n, .int .i64 body, .int .i64 els, .int .i64 pos] 31)) wr.heap.size ⟨kind, reg.take 40, name.take 40, xe, xf, n, body, els, pos⟩ (.slice A5 xe.length c5) (.slice A6 xf.length c6)) := sb_new wr ⟨kind, reg.take 40, name.take 40, xe, xf, n, body, els, pos⟩ _ _
        have HBU : Hid (Below wr.heap.size wr (wr.alloc (.cells #[.int .i64 kind, .string (str (reg.take 40)), .string (str (name.take 40)), .slice A5 xe.length c5, .slice A6 xf.length c6, .int .i64 n, .int .i64 body, .int .i64 els, .int .i64 pos] 31))) := al wr _
        obtain ⟨g, HG⟩ : ∃ g, Hid (wr.heap.size = g) := ⟨_, rfl⟩
        rw [HG.out] at HSB ⊢
        generalize World.alloc wr _ = U at HSB HBU ⊢
        clear hx0 hx1 hx2 hx3 hx4 hx5 hx6 hx7 hx8 hs1 hs2 z1 z2
        obtain ⟨sl, s0, s1, s2, s3, s4, s5, s6, s7, s8, sfr⟩ := HSB.out
        dsimp only at s0 s1 s2 s3 s4 s5 s6 s7 s8
        clear s0 s1 s2 s4 s5 s6 s7 s8
        go_wp2_with (go_at_call_of 29 (Value.slice A5 xe.length c5); (with_reducible refine (HC3.out _ HBU.out).mono ?_); rintro e w3 ⟨P3, d3, rfl, ho3, hb3⟩; have HO3 := Lib.hid ho3; have HB3 := Lib.hid hb3; have hf3 := (HSB.out.below hb3).fr 3; have ht4 := (HSB.out.below hb3).c4; have ht3 := (HSB.out.below hb3).c3; (try dsimp only at ht3 ht4); clear ho3 hb3)
        clear hf3 ht3 ht4 s3 sl sfr
        have HGL : Hid (wr.heap.size ≤ g) := by show _ ≤ _; rw [HG.out]; exact Nat.le_refl _
        have HS3 : Hid (SB (w3.setCell ⟨g, 3, none⟩ (.slice P3 (cutL xe).length d3)) g ⟨kind, reg.take 40, name.take 40, cutL xe, xf, n, body, els, pos⟩ (.slice P3 (cutL xe).length d3) (.slice A6 xf.length c6)) := (HSB.out.below HB3.out).setE (cutL xe) _
        have HB3s : Hid (Below wr.heap.size wr (w3.setCell ⟨g, 3, none⟩ (.slice P3 (cutL xe).length d3))) := below_set (bt HBU.out HB3.out) HGL.out _
        have HO3s : Hid (Off (Old U.heap.size) (w3.setCell ⟨g, 3, none⟩ (.slice P3 (cutL xe).length d3)) (fun u => Nods u (.slice P3 (cutL xe).length d3) (cutL xe))) := HO3.out.setCell ⟨g, 3, none⟩ HSB.out.lt _
        have HGU : Hid (g < U.heap.size) := HSB.out.lt
        generalize World.setCell _ _ _ = U3 at HS3 HB3s HO3s ⊢
        (with_reducible refine (HC4.out _ HB3s.out).mono ?_)
        rintro e w5 ⟨P4, d4, rfl, ho4, hb5⟩
        have hs5 := HS3.out.below hb5
        have hf4 := hs5.fr 4
        have ht4 := hs5.c4
        (try dsimp only at ht4)
        dsimp only
        go_upto_region 10 with fail
        have HS5 : Hid (SB (w5.setCell ⟨g, 4, none⟩ (.slice P4 (cutL xf).length d4)) g ⟨kind, reg.take 40, name.take 40, cutL xe, cutL xf, n, body, els, pos⟩ (.slice P3 (cutL xe).length d3) (.slice P4 (cutL xf).length d4)) := hs5.setF (cutL xf) _
        have HB5 : Hid (Below wr.heap.size wr (w5.setCell ⟨g, 4, none⟩ (.slice P4 (cutL xf).length d4))) := below_set (bt HB3s.out hb5) HGL.out _
        have HO5 : Hid (Off (Old U.heap.size) (w5.setCell ⟨g, 4, none⟩ (.slice P4 (cutL xf).length d4)) (fun u => Nods u (.slice P3 (cutL xe).length d3) (cutL xe))) := (HO3s.out.below hb5).setCell ⟨g, 4, none⟩ HGU.out _
        have HO6 : Hid (Off (Old U3.heap.size) (w5.setCell ⟨g, 4, none⟩ (.slice P4 (cutL xf).length d4)) (fun u => Nods u (.slice P4 (cutL xf).length d4) (cutL xf))) := ho4.setCell ⟨g, 4, none⟩ HS3.out.lt _
        have HU3 : Hid (wr.heap.size ≤ U3.heap.size) := HB3s.out.size
        clear hf4 ht4 hs5 ho4 hb5
        generalize World.setCell _ _ _ = U5 at HS5 HB5 HO5 HO6 ⊢
        obtain ⟨sl, s0, s1, s2, s3, s4, s5, s6, s7, s8, sfr⟩ := HS5.out
        dsimp only at s0 s1 s2 s3 s4 s5 s6 s7 s8
        have HOQ : Hid (SOwn (fun _ => False) w.heap.size U5 (.slice A q.length cc) q) := HOWN.out.below HB5.out
        have HOX : Hid (Off (fun k => (Value.slice A q.length cc).ownBlock = some k ∨ False) U5 (fun u => Nods u (.slice P3 (cutL xe).length d3) (cutL xe) ∧ Nods u (.slice P4 (cutL xf).length d4) (cutL xf))) := by
          have hlt : ∀ k, (Value.slice A q.length cc).ownBlock = some k → k < wr.heap.size := fun k hk => (HOWN.out.own.lt k hk).2
          exact fun w' h1 h2 => ⟨(HO5.out.mono (fun k _ hk => by
            rcases hk with hk | hk
            · show k < _
              have := hlt k hk
              have := HGU.out
              have := HGL.out
              omega
            · exact hk.elim)) w' h1 h2, (HO6.out.mono (fun k _ hk => by
            rcases hk with hk | hk
            · exact Nat.lt_of_lt_of_le (hlt k hk) HU3.out
            · exact hk.elim)) w' h1 h2⟩
        go_wp2_with (first
          | (at_builtin; refine wpl_appO rfl _ _ 24 rfl w.heap.size 31 i0 _ 9 120 Tryz.underlying24 hi0 hz0 hz1 hz2 rfl (by decide) (.slice A q.length cc) q.length (q.flatMap Sv.cells) rfl (HOQ.out.below (al U5 _)).own (.slice (some ⟨U5.heap.size, 0, none⟩) 1 1) 1 ([(⟨⟨kind, reg.take 40, name.take 40, cutL xe, cutL xf, n, body, els, pos⟩, .slice P3 (cutL xe).length d3, .slice P4 (cutL xf).length d4⟩ : Sv)].flatMap Sv.cells) rfl (sl_litS U5 ⟨⟨kind, reg.take 40, name.take 40, cutL xe, cutL xf, n, body, els, pos⟩, .slice P3 (cutL xe).length d3, .slice P4 (cutL xf).length d4⟩) (stmt_one _ (by simp [Value.oneCell'])) HT4.out.1 HT4.out.2 (Nat.le_trans HSZ.out (Nat.le_trans HB5.out.size (al U5 _).size)) ?_; intro v6 w6 hown6 hb6 hg6 hat6; obtain ⟨A6', c6', rfl⟩ := own_shape hown6; have hB6 := btB (bt (bt HB.out HB5.out) (al U5 _)) hb6 (Nat.le_refl _)))
        go_roundw
        case rel =>
          refine ⟨j + 1, q ++ [⟨⟨kind, reg.take 40, name.take 40, cutL xe, cutL xf, n, body, els, pos⟩, .slice P3 (cutL xe).length d3, .slice P4 (cutL xf).length d4⟩], A6', c6', by omega, by omega, by go_num, by rw [List.length_append]; rfl, by rw [List.length_append, HQL.out]; rfl, by show _ = _; rw [List.map_append]; exact HS.out, ?_, hB6⟩
          rw [List.length_append]
          exact (HOQ.out.below (al U5 _)).app ⟨⟨kind, reg.take 40, name.take 40, cutL xe, cutL xf, n, body, els, pos⟩, .slice P3 (cutL xe).length d3, .slice P4 (cutL xf).length d4⟩ (HOX.out.below (al U5 _)) hown6 hg6 hat6
        case measure => simp [intOf]; omega
      · have hj62 : ¬ ((j : Int) < 50) := by omega
        have HC : Hid (q.map (·.s) = cutSs (l.map (·.s))) := by
          show _ = _
          rw [HMAP.out]
          unfold cutSs
          rw [show j = 50 by omega, ← List.map_take, List.map_map]
          rfl
        go_wp2_with fail
        exact HP.out _ _ _ _ _ HC.out rfl HOWN.out HB.out
    · have hje : Hid (j = l.length) := by show _ = _; omega
      have hjl2 : ¬ ((j : Int) < (l.length : Int)) := by omega
      have HC : Hid (q.map (·.s) = cutSs (l.map (·.s))) := by
        show _ = _
        rw [HMAP.out]
        unfold cutSs
        have := hje.out
        rw [List.take_of_length_le (by omega), List.take_of_length_le (by rw [List.length_map]; omega), List.map_map]
        rfl
      go_wp2_with fail
      exact HP.out _ _ _ _ _ HC.out rfl HOWN.out HB.out
theorem cut_B {q:List Sv} {l:List St} (h:q.map (·.s)=cutSs l):q.length≤50∧∀ x∈q,SvB x.s:=by
 refine ⟨?_,B_of h (fun x hx=>?_)⟩
 ·have:=congrArg List.length h
  rw [List.length_map] at this
  have:=cutSs_len l
  omega
 ·unfold cutSs at hx
  obtain ⟨y,_,rfl⟩:=List.mem_map.1 hx
  exact cutS_B y
end Go.Proofs.YtaoeaaebafcegaaGreatDoor
namespace Go.Proofs.YtaoeaaebafcegaaGreatDoor
open Go Go.ChangeShapes Go.WideShapes Go.Deep Go.RowKit
set_option linter.unusedVariables false
section
variable {H:Type} {enc:TypeId × Value→H} {P:Program} {w:World} {base:Nat} {spare:Nat→Bool} {held:Bool}
theorem open_fields {t e:TypeId} {fs:Array Field} {fuel:Nat} {cs:List Value} {x:DataW H × List MemPlace} (ht:P.underlying t=some (.slice e)) (he:P.underlying e=some (.struct fs))
 (hone:oneCellFields P fs=true) (hC:P.cellsOf e=fs.size) (h:DataW.trod enc P w base spare held fuel t cs=some x) :
 (cs = [.slice none 0 0]) ∨
 ∃ (a:Addr) (len cap m:Nat),cs = [.slice (some a) len cap]∧len≤cap∧cap≤maxLen∧m=(if spare a.block then cap else len) ∧
  ∀ i,i < m→∀ (j:Nat) (f:Field),fs[j]? = some f→∃ (v:Value) (y:DataW H × List MemPlace) (n:Nat),w.cell? (a.add (i*fs.size+j))=some v∧DataW.trod enc P w base spare held n f.type [v] = some y:=by
 rcases open_slice ht h with h0 | ⟨a,len,cap,m,n,D,Pl,hcs,hb,hl,hm,hmm,hx,hi⟩
 ·exact .inl h0.1
 ·refine .inr ⟨a,len,cap,m,hcs,hl,hm,hmm,fun i him j f hj=>?_⟩
  obtain ⟨cs',hc,ht'⟩:=hi i him
  rw [hC] at hc
  obtain ⟨ys,n',hn',hy,hlen,hyl,hf⟩:=DataW.trod_struct he ht'
  obtain ⟨_,hcl,hat⟩:=World.cells?_some hc
  obtain ⟨ho,hk⟩:=hone_of hone j f hj
  have hjl:j < fs.size:=(Array.getElem?_eq_some_iff.1 hj).1
  have hcell:=hat j hjl
  have hv:cs'[j]? = some (cs'[j]'(by omega)):=List.getElem?_eq_getElem (by omega)
  have h1:=hf j f hj
  rw [ho,hk] at h1
  have hone':(cs'.drop j).take 1 = [cs'[j]'(by omega)]:=by
   rw [List.drop_eq_getElem_cons (by omega)]
   rfl
  rw [hone'] at h1
  have hys:ys[j]? = some (ys[j]'(by omega)):=List.getElem?_eq_getElem (by omega)
  refine ⟨_,_,_,?_,h1.trans hys⟩
  rw [← Go.Deep.add_add,hcell,hv]
end
theorem add_none (b off j:Nat):(⟨b,off,none⟩:Addr).add j=⟨b,off+j,none⟩:=by
 unfold Addr.add
 split
 ·rename_i h0;subst h0;rfl
 ·rfl
theorem sl_of_rows {α:Type} (f:α→List Value) (hf:∀ x,(f x).length=4) {W:World} {a:Addr} {len cap:Nat} (hc:len≤cap)
 (h:∀ i,i < len→∃ x:α,∀ k u,(f x)[k]? = some u→W.cell? (a.add (i*4+k))=some u) (hne:∀ x,∃ u,(f x)[0]? = some u) :
 ∃ l:List α,l.length=len∧SlN W (.slice (some a) len cap) 4 l.length (l.flatMap f)∧∀ x∈l,∃ i,i < len∧∀ k u,(f x)[k]? = some u→W.cell? (a.add (i*4+k))=some u:=by
 have hex:∀ n,n≤len→∃ l:List α,l.length=n∧∀ i (hi:i < l.length),∀ k u,(f l[i])[k]? = some u→W.cell? (a.add (i*4+k))=some u:=by
  intro n
  induction n with
  | zero=>exact fun _=>⟨[],rfl,fun i hi=>absurd hi (by simp)⟩
  | succ n ih =>
    intro hn
    obtain ⟨l,hl,hg⟩:=ih (by omega)
    obtain ⟨x,hx⟩:=h n (by omega)
    refine ⟨l++[x],by simp [hl],fun i hi k u hk=>?_⟩
    by_cases hil:i < l.length
    ·rw [List.getElem_append_left hil] at hk
     exact hg i hil k u hk
    ·have:i=n:=by simp at hi;omega
     subst this
     rw [List.getElem_append_right (by omega)] at hk
     simp only [hl,Nat.sub_self,List.getElem_cons_zero] at hk
     exact hx k u hk
 obtain ⟨l,hl,hg⟩:=hex len (Nat.le_refl _)
 refine ⟨l,hl,⟨flat_length f 4 hf l,some a,cap,by rw [hl],by omega,fun h0=>?_⟩,fun x hx=>?_⟩
 ·obtain ⟨b,off,spot⟩:=a
  obtain ⟨u0,hu0⟩:=hne (l[0]'h0)
  have hc0:=hg 0 h0 0 u0 hu0
  have hspot:spot=none:=by simpa [Addr.add] using World.cell?_spot hc0
  subst hspot
  refine ⟨b,off,rfl,?_,fun j u hj=>?_⟩
  ·rw [add_none] at hc0
   exact World.block_lt_of_cell? W _ hc0
  ·have hjl:j < (l.flatMap f).length:=(List.getElem?_eq_some_iff.1 hj).1
   rw [flat_length f 4 hf] at hjl
   have e:j / 4*4+j % 4=j:=by omega
   have:=flat_getElem f 4 hf l (j / 4) (j % 4) (by omega) (by omega)
   rw [e] at this
   rw [this] at hj
   have:=hg (j / 4) (by omega) (j % 4) u hj
   rw [e,add_none] at this
   exact this
 ·obtain ⟨i,hi,rfl⟩:=List.mem_iff_getElem.1 hx
  exact ⟨i,by omega,hg i hi⟩
theorem sl_of_rows9 {α:Type} (f:α→List Value) (hf:∀ x,(f x).length=9) {W:World} {a:Addr} {len cap:Nat} (hc:len≤cap)
 (h:∀ i,i < len→∃ x:α,∀ k u,(f x)[k]? = some u→W.cell? (a.add (i*9+k))=some u) (hne:∀ x,∃ u,(f x)[0]? = some u) :
 ∃ l:List α,l.length=len∧SlN W (.slice (some a) len cap) 9 l.length (l.flatMap f)∧∀ x∈l,∃ i,i < len∧∀ k u,(f x)[k]? = some u→W.cell? (a.add (i*9+k))=some u:=by
 have hex:∀ n,n≤len→∃ l:List α,l.length=n∧∀ i (hi:i < l.length),∀ k u,(f l[i])[k]? = some u→W.cell? (a.add (i*9+k))=some u:=by
  intro n
  induction n with
  | zero=>exact fun _=>⟨[],rfl,fun i hi=>absurd hi (by simp)⟩
  | succ n ih =>
    intro hn
    obtain ⟨l,hl,hg⟩:=ih (by omega)
    obtain ⟨x,hx⟩:=h n (by omega)
    refine ⟨l++[x],by simp [hl],fun i hi k u hk=>?_⟩
    by_cases hil:i < l.length
    ·rw [List.getElem_append_left hil] at hk
     exact hg i hil k u hk
    ·have:i=n:=by simp at hi;omega
     subst this
     rw [List.getElem_append_right (by omega)] at hk
     simp only [hl,Nat.sub_self,List.getElem_cons_zero] at hk
     exact hx k u hk
 obtain ⟨l,hl,hg⟩:=hex len (Nat.le_refl _)
 refine ⟨l,hl,⟨flat_length f 9 hf l,some a,cap,by rw [hl],by omega,fun h0=>?_⟩,fun x hx=>?_⟩
 ·obtain ⟨b,off,spot⟩:=a
  obtain ⟨u0,hu0⟩:=hne (l[0]'h0)
  have hc0:=hg 0 h0 0 u0 hu0
  have hspot:spot=none:=by simpa [Addr.add] using World.cell?_spot hc0
  subst hspot
  refine ⟨b,off,rfl,?_,fun j u hj=>?_⟩
  ·rw [add_none] at hc0
   exact World.block_lt_of_cell? W _ hc0
  ·have hjl:j < (l.flatMap f).length:=(List.getElem?_eq_some_iff.1 hj).1
   rw [flat_length f 9 hf] at hjl
   have e:j / 9*9+j % 9=j:=by omega
   have:=flat_getElem f 9 hf l (j / 9) (j % 9) (by omega) (by omega)
   rw [e] at this
   rw [this] at hj
   have:=hg (j / 9) (by omega) (j % 9) u hj
   rw [e,add_none] at this
   exact this
 ·obtain ⟨i,hi,rfl⟩:=List.mem_iff_getElem.1 hx
  exact ⟨i,by omega,hg i hi⟩
theorem maxLen_eq:maxLen=9223372036854775807:=rfl
theorem fields_node:∃ f0 f1 f2 f3:Field,Tryz.prog.underlying 33 = some (.struct #[f0,f1,f2,f3])∧f0.type = 3∧f1.type = 3∧f2.type = 9∧f3.type = 3:=⟨_,_,_,_,Tryz.underlying33,rfl,rfl,rfl,rfl⟩
theorem one_node:∀ fs,Tryz.prog.underlying 33 = some (.struct fs)→oneCellFields Tryz.prog fs=true∧Tryz.prog.cellsOf 33 = fs.size:=fun fs h=>by
 rw [Tryz.underlying33] at h
 cases h
 exact ⟨by kernel_rfl,by kernel_rfl⟩
theorem open_nods {H:Type} {enc:TypeId × Value→H} {W:World} {fuel:Nat} {v:Value} {x:DataW H × List MemPlace} (hf:DataW.trod enc Tryz.prog W 0 (fun _=>true) true fuel 29 [v] = some x) :
 ∃ l:List Nod,Nods W v l∧l.length≤9223372036854775807∧∀ x∈l,x.name.length≤9223372036854775807:=by
 obtain ⟨f0,f1,f2,f3,hs,t0,t1,t2,t3⟩:=fields_node
 obtain ⟨hone,hC⟩:=one_node _ hs
 rcases open_fields Tryz.underlying29 hs hone hC hf with h0 | ⟨a,len,cap,m,hcs,hl,hm,hmm,hi⟩
 ·simp only [List.cons.injEq,and_true] at h0
  subst h0
  exact ⟨[],Sl.nil _ _ _,by simp,by simp⟩
 ·simp only [List.cons.injEq,and_true] at hcs
  subst hcs
  simp only [if_true] at hmm
  have hrow:∀ i,i < len→∃ x:Nod,x.name.length≤9223372036854775807∧∀ k u,(Nod.cells x)[k]? = some u→W.cell? (a.add (i*4+k))=some u:=by
   intro i hil
   obtain ⟨v0,y0,n0,c0,e0⟩:=hi i (by omega) 0 f0 rfl
   obtain ⟨v1,y1,n1,c1,e1⟩:=hi i (by omega) 1 f1 rfl
   obtain ⟨v2,y2,n2,c2,e2⟩:=hi i (by omega) 2 f2 rfl
   obtain ⟨v3,y3,n3,c3,e3⟩:=hi i (by omega) 3 f3 rfl
   rw [t0] at e0;rw [t1] at e1;rw [t2] at e2;rw [t3] at e3
   obtain ⟨z0,q0,_,_⟩:=DataW.trod_int Tryz.underlying3 e0
   obtain ⟨z1,q1,_,_⟩:=DataW.trod_int Tryz.underlying3 e1
   obtain ⟨z2,q2,_,hz2⟩:=DataW.trod_string Tryz.underlying9 e2
   obtain ⟨z3,q3,_,_⟩:=DataW.trod_int Tryz.underlying3 e3
   cases q0;cases q1;cases q2;cases q3
   refine ⟨⟨z0,z1,z2.data.toList,z3⟩,?_,fun k u hk=>?_⟩
   ·have hdl:z2.data.toList.length=z2.size:=by rw [Array.length_toList];rfl
    show z2.data.toList.length≤_
    rw [hdl];rw [maxLen_eq] at hz2;omega
   ·have hs2:str z2.data.toList=z2:=str_of z2
    match k,hk with
    | 0,hk=>cases hk;exact c0
    | 1,hk=>cases hk;exact c1
    | 2,hk=>cases hk;rw [hs2];exact c2
    | 3,hk=>cases hk;exact c3
    | k+4,hk=>cases hk
  obtain ⟨l,hll,hsl,hall⟩:=sl_of_rows (α:={ x:Nod // x.name.length≤9223372036854775807 }) (fun x=>Nod.cells x.val) (fun x=>rfl) hl (fun i hil=>by
   obtain ⟨x,hx1,hx2⟩:=hrow i hil
   exact ⟨⟨x,hx1⟩,hx2⟩) (fun x=>⟨_,rfl⟩)
  refine ⟨l.map (·.val),?_,by rw [List.length_map,hll];rw [maxLen_eq] at hm;omega,fun x hx=>?_⟩
  ·show SlN W _ 4 (l.map (·.val)).length ((l.map (·.val)).flatMap Nod.cells)
   rw [List.length_map,List.flatMap_map]
   exact hsl
  ·obtain ⟨y,_,rfl⟩:=List.mem_map.1 hx
   exact y.2
theorem fields_stmt:∃ f0 f1 f2 f3 f4 f5 f6 f7 f8:Field,Tryz.prog.underlying 31 = some (.struct #[f0,f1,f2,f3,f4,f5,f6,f7,f8])∧f0.type = 3∧f1.type = 9∧f2.type = 9∧f3.type = 29∧f4.type = 29∧f5.type = 3∧f6.type = 3∧f7.type = 3∧f8.type = 3:=⟨_,_,_,_,_,_,_,_,_,Tryz.underlying31,rfl,rfl,rfl,rfl,rfl,rfl,rfl,rfl,rfl⟩
theorem one_stmtA:∀ fs,Tryz.prog.underlying 31 = some (.struct fs)→oneCellFields Tryz.prog fs=true∧Tryz.prog.cellsOf 31 = fs.size:=fun fs h=>by
 rw [Tryz.underlying31] at h
 cases h
 exact ⟨by kernel_rfl,by kernel_rfl⟩
theorem str_lenA {z:ByteArray} (h:z.size≤maxLen):z.data.toList.length≤9223372036854775807:=by
 have hdl:z.data.toList.length=z.size:=by rw [Array.length_toList];rfl
 rw [hdl];rw [maxLen_eq] at h;omega
theorem open_stmts {H:Type} {enc:TypeId × Value→H} {W:World} {r:Reach} {b0:Nat} {v:Value} {d:DataW H} {p:List MemPlace} (hv:Value.okWide Tryz.prog W r b0 24 v) (h:DataW.Trod enc Tryz.prog W 0 (fun _=>true) true 24 v d p) :
 ∃ l:List Sv,Svs W v l∧l.length≤9223372036854775807∧∀ x∈l,SvA x.s:=by
 obtain ⟨f0,f1,f2,f3,f4,f5,f6,f7,f8,hs,t0,t1,t2,t3,t4,t5,t6,t7,t8⟩:=fields_stmt
 obtain ⟨hone,hC⟩:=one_stmtA _ hs
 obtain ⟨a0,len,cap,rfl⟩:=okWide_slice Tryz.underlying24 hv
 obtain ⟨fuel,hf⟩:=h
 rcases open_fields Tryz.underlying24 hs hone hC hf with h0 | ⟨a,len',cap',m,hcs,hl,hm,hmm,hi⟩
 ·simp only [Value.cells,List.cons.injEq,Value.slice.injEq,and_true] at h0
  obtain ⟨rfl,rfl,rfl⟩:=h0
  exact ⟨[],svs_nil _ _ _,by simp,by simp⟩
 ·simp only [Value.cells,List.cons.injEq,Value.slice.injEq,and_true] at hcs
  obtain ⟨rfl,rfl,rfl⟩:=hcs
  simp only [if_true] at hmm
  have hrow:∀ i,i < len→∃ x:Sv,((Nods W x.ev x.s.e∧Nods W x.fv x.s.f)∧SvA x.s)∧∀ k u,(Sv.cells x)[k]? = some u→W.cell? (a.add (i*9+k))=some u:=by
   intro i hil
   obtain ⟨v0,y0,n0,c0,e0⟩:=hi i (by omega) 0 f0 rfl
   obtain ⟨v1,y1,n1,c1,e1⟩:=hi i (by omega) 1 f1 rfl
   obtain ⟨v2,y2,n2,c2,e2⟩:=hi i (by omega) 2 f2 rfl
   obtain ⟨v3,y3,n3,c3,e3⟩:=hi i (by omega) 3 f3 rfl
   obtain ⟨v4,y4,n4,c4,e4⟩:=hi i (by omega) 4 f4 rfl
   obtain ⟨v5,y5,n5,c5,e5⟩:=hi i (by omega) 5 f5 rfl
   obtain ⟨v6,y6,n6,c6,e6⟩:=hi i (by omega) 6 f6 rfl
   obtain ⟨v7,y7,n7,c7,e7⟩:=hi i (by omega) 7 f7 rfl
   obtain ⟨v8,y8,n8,c8,e8⟩:=hi i (by omega) 8 f8 rfl
   rw [t0] at e0;rw [t1] at e1;rw [t2] at e2;rw [t3] at e3;rw [t4] at e4;rw [t5] at e5;rw [t6] at e6;rw [t7] at e7;rw [t8] at e8
   obtain ⟨z0,q0,_,_⟩:=DataW.trod_int Tryz.underlying3 e0
   obtain ⟨z1,q1,_,hz1⟩:=DataW.trod_string Tryz.underlying9 e1
   obtain ⟨z2,q2,_,hz2⟩:=DataW.trod_string Tryz.underlying9 e2
   obtain ⟨z3,q3,hz3,hn3⟩:=open_nods e3
   obtain ⟨z4,q4,hz4,hn4⟩:=open_nods e4
   obtain ⟨z5,q5,_,_⟩:=DataW.trod_int Tryz.underlying3 e5
   obtain ⟨z6,q6,_,_⟩:=DataW.trod_int Tryz.underlying3 e6
   obtain ⟨z7,q7,_,_⟩:=DataW.trod_int Tryz.underlying3 e7
   obtain ⟨z8,q8,_,_⟩:=DataW.trod_int Tryz.underlying3 e8
   cases q0;cases q1;cases q2;cases q5;cases q6;cases q7;cases q8
   refine ⟨⟨⟨z0,z1.data.toList,z2.data.toList,z3,z4,z5,z6,z7,z8⟩,v3,v4⟩,⟨⟨q3,q4⟩,⟨str_lenA hz1,str_lenA hz2,hz3,hz4,hn3,hn4⟩⟩,fun k u hk=>?_⟩
   have hs1:str z1.data.toList=z1:=str_of z1
   have hs2:str z2.data.toList=z2:=str_of z2
   match k,hk with
   | 0,hk=>cases hk;exact c0
   | 1,hk=>cases hk;rw [hs1];exact c1
   | 2,hk=>cases hk;rw [hs2];exact c2
   | 3,hk=>cases hk;exact c3
   | 4,hk=>cases hk;exact c4
   | 5,hk=>cases hk;exact c5
   | 6,hk=>cases hk;exact c6
   | 7,hk=>cases hk;exact c7
   | 8,hk=>cases hk;exact c8
   | k+9,hk=>cases hk
  obtain ⟨l,hll,hsl,hall⟩:=sl_of_rows9 (α:={ x:Sv // (Nods W x.ev x.s.e∧Nods W x.fv x.s.f)∧SvA x.s }) (fun x=>Sv.cells x.val) (fun x=>rfl) hl (fun i hil=>by
   obtain ⟨x,hx1,hx2⟩:=hrow i hil
   exact ⟨⟨x,hx1⟩,hx2⟩) (fun x=>⟨_,rfl⟩)
  refine ⟨l.map (·.val),⟨?_,fun x hx=>?_⟩,by rw [List.length_map,hll];rw [maxLen_eq] at hm;omega,fun x hx=>?_⟩
  ·show SlN W _ 9 (l.map (·.val)).length ((l.map (·.val)).flatMap Sv.cells)
   rw [List.length_map,List.flatMap_map]
   exact hsl
  ·obtain ⟨y,_,rfl⟩:=List.mem_map.1 hx
   exact y.2.1
  ·obtain ⟨y,_,rfl⟩:=List.mem_map.1 hx
   exact y.2.2
end Go.Proofs.YtaoeaaebafcegaaGreatDoor

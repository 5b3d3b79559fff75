/- Chapter 04 (statements), joined: StmPlB, StmPlG, StLwP, StLwF. -/
import Derived.Test.YtaoeaaebafcegaaGreatDoorPkC248
import Derived.Test.YtaoeaaebafcegaaGreatDoorPkC49
set_option maxRecDepth 100000
set_option maxHeartbeats 32000000
namespace Go.Proofs.YtaoeaaebafcegaaGreatDoor
open Go Go.RowKit
set_option linter.unusedVariables false
theorem Rd.bare {b:Bool} {l:List St} {d:Nat} (h:Rd b l d) (hn:∀ x∈l,x.kind≠13) (b2:Bool):Rd b2 l d:=by
 induction h generalizing b2 with
 | nil=>exact .nil
 | leaf h11 h12 hb he h13 hr ih=>exact .leaf h11 h12 hb he (fun e=>absurd e (hn _ (by simp))) (ih (fun x hx=>hn x (by simp [hx])) b2)
 | ifs h11 hb he hy hz hr i1 i2 i3=>exact .ifs h11 hb he (i1 (fun x hx=>hn x (by simp [hx])) b2) (i2 (fun x hx=>hn x (by simp [hx])) b2) (i3 (fun x hx=>hn x (by simp [hx])) b2)
 | loop h12 hb he hy hr i1 i2=>exact .loop h12 hb he hy (i2 (fun x hx=>hn x (by simp [hx])) b2)
theorem Rd.first {b:Bool} {l:List St} {d:Nat} (h:Rd b l d) (hne:l≠[]):∃ x y z r dy d1 dr,l=x :: (y++(z++r))∧x.body=(y.length:Nat)∧x.els=(z.length:Nat)∧Rd true y dy∧(y = []∨dy+1≤d)∧Rd b (x :: (y++z)) d1∧d1≤d∧Rd b r dr∧dr≤d:=by
 cases h with
 | nil=>exact absurd rfl hne
 | @leaf _ x r _ h11 h12 hb he h13 hr=>exact ⟨x,[],[],r,0,0,d,rfl,hb,he,.nil,.inl rfl,.leaf h11 h12 hb he h13 .nil,Nat.zero_le _,hr,Nat.le_refl _⟩
 | @ifs _ x y z r d1 d2 dd h11 hb he hy hz hr =>
   refine ⟨x,y,z,r,d1,max 0 (max (d1+1) (d2+1)),dd,rfl,hb,he,hy.weak,.inr (by omega),?_,by omega,hr,by omega⟩
   have:=Rd.ifs h11 hb he hy hz (.nil (b:=b))
   rwa [List.append_nil] at this
 | @loop _ x y r d1 dd h12 hb he hy hr =>
   refine ⟨x,y,[],r,d1,max 0 (d1+1),dd,rfl,hb,he,hy,.inr (by omega),?_,by omega,hr,by omega⟩
   have:=Rd.loop h12 hb he hy (.nil (b:=b))
   exact this
structure TopAt (l:List St) (d k:Nat) (x:St) (y z:List St):Prop where
 ex:∃ pre r d1 d2 d3 dy,l=pre++(x :: (y++(z++r)))∧pre.length=k∧x.body=(y.length:Nat)∧x.els=(z.length:Nat)∧Rd false pre d1∧d1≤d∧Rd true y dy∧(y = []∨dy+1≤d)∧Rd false (x :: (y++z)) d2∧d2≤d∧Rd false r d3∧d3≤d
theorem top_first {l:List St} {d:Nat} (h:Rd false l d) (hne:l≠[]):∃ x y z,TopAt l d 0 x y z:=by
 obtain ⟨x,y,z,r,dy,d1,dr,h1,h2,h3,h4,h5,h6,h7,h8,h9⟩:=h.first hne
 exact ⟨x,y,z,⟨[],r,0,d1,dr,dy,h1,rfl,h2,h3,.nil,Nat.zero_le _,h4,h5,h6,h7,h8,h9⟩⟩
theorem top_next {l:List St} {d k:Nat} {x:St} {y z:List St} (h:TopAt l d k x y z) (hlt:k+1+y.length+z.length < l.length):∃ x' y' z',TopAt l d (k+1+y.length+z.length) x' y' z':=by
 obtain ⟨pre,r,d1,d2,d3,dy,e,hk,hb,he,hp,hp1,hy,hy1,hx,hx1,hr,hr1⟩:=h
 have hne:r≠[]:=fun e2=>by
  subst e2 e
  simp only [List.length_append,List.length_cons,List.length_nil] at hlt
  omega
 obtain ⟨x',y',z',r',dy',d1',dr',g1,g2,g3,g4,g5,g6,g7,g8,g9⟩:=hr.first hne
 refine ⟨x',y',z',⟨pre++(x :: (y++z)),r',max d1 d2,d1',dr',dy',?_,?_,g2,g3,hp.app hx,by omega,g4,g5.imp id (fun h=>by omega),g6,by omega,g8,by omega⟩⟩
 ·rw [e,g1];simp
 ·simp only [List.length_append,List.length_cons];omega
theorem top_at {l:List St} {d k:Nat} {x:St} {y z:List St} (h:TopAt l d k x y z):∃ hk:k < l.length,l[k] = x∧x.body=(y.length:Nat)∧x.els=(z.length:Nat)∧k+1+y.length+z.length≤l.length∧(l.drop (k+1)).take y.length=y∧∃ r,l.drop (k+1+y.length+z.length)=r∧l=l.take k++(x :: (y++(z++r))):=by
 obtain ⟨pre,r,d1,d2,d3,dy,e,hk,hb,he,hp,hp1,hy,hy1,hx,hx1,hr,hr1⟩:=h
 subst hk
 have hlen:l.length=pre.length+(1+(y.length+(z.length+r.length))):=by rw [e];simp only [List.length_append,List.length_cons];omega
 refine ⟨by omega,?_,hb,he,by omega,?_,r,?_,?_⟩
 ·subst e;simp
 ·rw [e,← List.drop_drop,List.drop_left];simp
 ·have:l=(pre++(x :: (y++z)))++r:=by rw [e];simp
  rw [this,show pre.length+1+y.length+z.length=(pre++(x :: (y++z))).length by simp only [List.length_append,List.length_cons];omega,List.drop_left]
 ·rw [e,List.take_left]
theorem bodies {l:List St} (hl:rightS l=true) {d k:Nat} (hd:depthS l=d) {x:St} {y z:List St} (h:TopAt l d k x y z) :
 ((∀ u∈y,u.kind≠13)→rightS y=true∧(y = []∨depthS y < d))∧rightS (l.take k++l.drop (k+1+y.length+z.length))=true:=by
 obtain ⟨g1,g2,d0,g3,g4⟩:=(rightS_iff l).1 hl
 have e0:=depthS_of hl g4
 obtain ⟨hk,_,hb,he,hle,ht,r,hr,hl2⟩:=top_at h
 obtain ⟨pre,r2,d1,d2,d3,dy,e,hk2,_,_,hp,hp1,hy,hy1,hx,hx1,hr2,hr1⟩:=h
 have epre:l.take k=pre:=by rw [e,← hk2,List.take_left]
 have er:r=r2:=by
  rw [epre] at hl2
  have:=hl2.symm.trans e
  have:=List.append_cancel_left this
  injection this with _ this
  exact List.append_cancel_left (List.append_cancel_left this)
 have hmem:∀ u∈y,u∈l:=fun u hu=>by rw [e];simp [hu]
 have hlen:l.length=pre.length+(1+(y.length+(z.length+r2.length))):=by rw [e];simp only [List.length_append,List.length_cons];omega
 refine ⟨fun hn=>?_,?_⟩
 ·have hy2:=hy.bare hn false
  have hR:rightS y=true:=(rightS_iff y).2 ⟨by omega,fun u hu=>g2 u (hmem u hu),dy,by
   rcases hy1 with rfl | h
   ·cases hy;omega
   ·omega,hy2⟩
  refine ⟨hR,?_⟩
  rcases hy1 with h | h
  ·exact .inl h
  ·right;rw [depthS_of hR hy2];omega
 ·rw [epre,hr,er]
  exact (rightS_iff _).2 ⟨by rw [List.length_append];omega,fun u hu=>g2 u (by
   rw [e]
   rcases List.mem_append.1 hu with h | h
   ·simp [h]
   ·simp [h]),max d1 d3,by omega,hp.app hr2⟩
theorem and16 (x:Int):0≤bits BinOp.and IntKind.i64 x 65535∧bits BinOp.and IntKind.i64 x 65535 < 65536:=by
 simp only [bits]
 have h:((BitVec.ofInt IntKind.i64.bits x) &&& (BitVec.ofInt IntKind.i64.bits 65535)).toNat≤65535:=by
  rw [BitVec.toNat_and];exact Nat.and_le_right
 rw [IntKind.wrap_i64]
 omega
theorem Svs.cutH {w:World} {A:Option Addr} {n c:Nat} {pl:List Sv} (h:Svs w (.slice A n c) pl) (k:Nat) (hk:k≤pl.length) (b:Int) (hb:b=(k:Nat)) :
 ∃ A' c',(∀ u,(Instr.slice 24 (.slice A n c) none (some (.int .i64 b)) none).run Tryz.prog u = .ok (.slice A' k c') u)∧Svs w (.slice A' k c') (pl.take k):=by
 subst hb
 obtain ⟨A0,c0,hv,hc⟩:=h.shape
 cases hv
 refine ⟨if c=0 then A else A.map (·.add 0),c,fun u=>by
  rw [run_slice_h u _ A pl.length c und_stmts .i64 _ (by omega) (by omega),elem_stmts,size_stmt]
  simp only [Result.andThen,sliced,Int.toNat_natCast,Nat.sub_zero,Nat.zero_mul],?_⟩
 by_cases hk0:k=0
 ·subst hk0
  rw [List.take_zero]
  exact svs_nil _ _ _
 ·obtain ⟨b0,off,c1,hv,hcc,hlt,_⟩:=h.at_ (by omega)
  cases hv
  rw [if_neg (by omega)]
  have e:(⟨b0,off,none⟩:Addr).add 0=⟨b0,off,none⟩:=rfl
  have:=h.sub 0 k c (by omega) (by omega)
  rw [List.drop_zero,Nat.zero_mul,Nat.add_zero] at this
  exact this
theorem Svs.cutL {w:World} {A:Option Addr} {n c:Nat} {pl:List Sv} (h:Svs w (.slice A n c) pl) (i k:Nat) (hik:i+k=pl.length) (a:Int) (ha:a=(i:Nat)) :
 ∃ A' c',(∀ u,(Instr.slice 24 (.slice A n c) (some (.int .i64 a)) none none).run Tryz.prog u = .ok (.slice A' k c') u)∧Svs w (.slice A' k c') (pl.drop i):=by
 subst ha
 obtain ⟨A0,c0,hv,hc⟩:=h.shape
 cases hv
 refine ⟨if c=i then A else A.map (·.add (i*9)),c - i,fun u=>by
  rw [run_slice_l u _ A pl.length c und_stmts .i64 _ (by omega) (by omega),elem_stmts,size_stmt]
  simp only [Result.andThen,sliced,Int.toNat_natCast]
  rw [show pl.length - i=k by omega],?_⟩
 by_cases hk0:k=0
 ·subst hk0
  rw [List.drop_eq_nil_of_le (by omega)]
  exact svs_nil _ _ _
 ·obtain ⟨b0,off,c1,hv,hcc,hlt,_⟩:=h.at_ (by omega)
  cases hv
  rw [if_neg (by omega)]
  have e:(⟨b0,off,none⟩:Addr).add (i*9)=⟨b0,off+i*9,none⟩:=by
   unfold Addr.add
   split
   ·rename_i h0;rw [h0];rfl
   ·rfl
  have:=h.sub i k (c - i) (by omega) (by omega)
  rw [List.take_of_length_le (by rw [List.length_drop];omega),← e] at this
  exact this
def brk (x:Sv):Bool:=x.s.kind == 13
theorem brk_none {l:List Sv} (h:l.any brk=false):∀ u∈l.map (·.s),u.kind≠13:=fun u hu=>by
 obtain ⟨x,hx,rfl⟩:=List.mem_map.1 hu
 intro e
 rw [List.any_eq_false] at h
 have:=h x hx
 unfold brk at this
 rw [e] at this
 exact this rfl
theorem any_succ (l:List Sv) (j:Nat) (h:j < l.length):(l.take (j+1)).any brk=((l.take j).any brk || brk l[j]):=by
 rw [List.take_succ_eq_append_getElem h,List.any_append]
 simp
theorem bodies_c (l : List Sv) (hl : l.length ≤ 9223372036854775807) (hln : ∀ x ∈ l, SvA x.s) (i : Int)
    (v : Value) (w : World) (hv : Svs w v l) (hE : Env w) :
    Calls Tryz.prog 7 #[v, .int .i64 i] w (Yes w) := by
  obtain ⟨i0, hi0, hz0, hz1, hz2⟩ := info_parts info_stmt
  have HE := Lib.hid hE
  have HC1 := Lib.hid (CutS_c l hl hln v w hv)
  obtain ⟨A0, c0, rfl, hc0⟩ := hv.shape
  clear hv hE hl hln hc0
  go_enter Tryz.func7, Tryz.ntmps7
  go_upto_region 2 with (go_at_call 15; refine (HC1.out).mono ?_; rintro e w1 ⟨a, A1, c1, rfl, hm1, hv1, hb1⟩)
  have HB1 := Lib.hid hb1
  have HN1 := Lib.hid hv1
  obtain ⟨ha, han⟩ := cut_B hm1
  clear hv1 hb1 hm1 HC1
  have HEN : Hid (∀ x, Below w1.heap.size w1 x → Env x) := fun x hx => HE.out.below (bt HB1.out hx)
  have HA : Hid (∀ x, Below w1.heap.size w1 x → Svs x (.slice A1 a.length c1) a) := fun x hx => HN1.out.below hx
  have K1 : Hid (∀ x, Below w1.heap.size w1 x → Calls Tryz.prog 16 #[.slice A1 a.length c1] x fun e w' => e = .returned (.bool (rightS (a.map (·.s)))) ∧ Below x.heap.size x w') := fun x hx => RightS_c a (by omega) han _ x (HA.out x hx) (HEN.out x hx)
  cases hra : rightS (a.map (·.s))
  · rw [hra] at K1
    clear hra ha han HA
    go_wp2_with (first
      | (go_at_call 16; refine (K1.out _ (Below.refl _ _)).mono ?_; rintro e w3 ⟨rfl, q3⟩)
      | (go_at_call 14; refine (fixed_c _ (HEN.out _ q3)).mono ?_; rintro e w16 ⟨rfl, p16⟩))
    go_ret
    exact ⟨rfl, bt (bt HB1.out q3) p16⟩
  · rw [hra] at K1
    have HRA := Lib.hid hra
    obtain ⟨_, _, D, hD12, hrd⟩ := (rightS_iff _).1 hra
    have HDD := Lib.hid (depthS_of hra hrd)
    have ha40 : a.length ≤ 40 := (right_parts hra).1
    by_cases h0 : a.length = 0
    · have h00 : ((a.length : Int) == 0) = true := by simp [h0]
      clear hra ha han HA HRA hrd HDD h0
      go_wp2_with (first
        | (go_at_call 16; refine (K1.out _ (Below.refl _ _)).mono ?_; rintro e w3 ⟨rfl, q3⟩)
        | (go_at_call 14; refine (fixed_c _ (HEN.out _ q3)).mono ?_; rintro e w16 ⟨rfl, p16⟩))
      go_ret
      exact ⟨rfl, bt (bt HB1.out q3) p16⟩
    · have h00 : ((a.length : Int) == 0) = false := by rw [beq_eq_false_iff_ne]; omega
      have K5 : Hid (∀ x, Below w1.heap.size w1 x → Calls Tryz.prog 20 #[.slice A1 a.length c1] x fun e w' => e = .returned (.int .i64 (D : Int)) ∧ Below x.heap.size x w') := fun x hx => by
        have := DepthS_c a (by omega) han _ x (HA.out x hx) (HEN.out x hx)
        rw [HDD.out] at this
        exact this
      obtain ⟨x0, y0, z0, htop⟩ := top_first hrd (fun e => h0 (by have := congrArg List.length e; simpa using this))
      have HTOP := Lib.hid htop
      have HAN := Lib.hid han
      clear hra hrd htop han
      go_upto_region 5 with (first
        | (go_at_call 16; refine (K1.out _ (Below.refl _ _)).mono ?_; rintro e w3 ⟨rfl, q3⟩)
        | (go_at_call 20; refine (K5.out _ q3).mono ?_; rintro e w4 ⟨rfl, p4⟩; have q4 := bt q3 p4; clear p4 q3))
      obtain ⟨b, off, c, hE0, hcc, hbt, hat⟩ := (HA.out _ q4).at_ (by omega)
      cases hE0
      have HAT := Lib.hid hat
      have HBT := Lib.hid hbt
      have HQ4 := Lib.hid q4
      have hal : 0 < (a.length : Int) := by omega
      have hal2 : (a.length : Int) ≤ 40 := by omega
      obtain ⟨y0', y1'⟩ := and16 i
      obtain ⟨yb, hyb⟩ : ∃ yb, bits BinOp.and IntKind.i64 i 65535 = yb := ⟨_, rfl⟩
      rw [hyb] at y0' y1'
      have hmod0 : 0 ≤ yb % (a.length : Int) := Int.emod_nonneg _ (by omega)
      have hmod1 : yb % (a.length : Int) < (a.length : Int) := Int.emod_lt_of_pos _ hal
      have htm : yb.tmod (a.length : Int) = yb % (a.length : Int) := Int.tmod_eq_emod_of_nonneg y0'
      obtain ⟨n0, hn0⟩ : ∃ n0, yb % (a.length : Int) = n0 := ⟨_, rfl⟩
      rw [hn0] at hmod0 hmod1 htm
      clear hat hbt q4 hcc
      go_wp2_with fail
      go_loopw [5, 7] (fun k n wr => ∃ (K : Nat) (m : Int), k = .int .i64 K ∧ n = .int .i64 m ∧ 0 ≤ m ∧ m ≤ 100 ∧ Hid (∃ x y z, TopAt (a.map (·.s)) D K x y z) ∧ Below w4.heap.size w4 wr) (fun _ n _ => (intOf n).toNat)
      case atStart =>
        first
          | exact ⟨0, n0, rfl, by first | rfl | rw [htm] | rw [hn0], hmod0, by omega, ⟨_, _, _, HTOP.out⟩, Below.refl _ _⟩
          | (go_ways; sorry)
      case round =>
        obtain ⟨K, m, rfl, rfl, hm0, hm1, HTP, hb⟩ := hrel
        have HB := Lib.hid hb
        obtain ⟨x, y, z, htp⟩ := HTP.out
        have hta := top_at htp
        obtain ⟨hKl, hKx, hby, hel, hle, hty, _⟩ := hta
        rw [List.length_map] at hKl hle
        have hKx2 : (a[K]).s = x := by rw [← hKx]; simp
        have hc6 := ((HAT.out K hKl).below hb HBT.out).c6
        have hc7 := ((HAT.out K hKl).below hb HBT.out).c7
        have hc0 := ((HAT.out K hKl).below hb HBT.out).c0
        rw [hKx2, hby] at hc6
        rw [hKx2, hel] at hc7
        have hKl2 : (K : Int) < (a.length : Int) := by omega
        have HTQ := Lib.hid htp
        have HTY := Lib.hid hty
        clear hKx hKx2 hby hel hty htp hc0 hyb htm hn0 hmod0 hmod1 y0' y1'
        obtain ⟨nb, hnb⟩ : ∃ nb, y.length = nb := ⟨_, rfl⟩
        obtain ⟨ne, hne⟩ : ∃ ne, z.length = ne := ⟨_, rfl⟩
        rw [hnb] at hc6 hle
        rw [hne] at hc7 hle
        have HNB := Lib.hid hnb
        have HNE := Lib.hid hne
        clear hnb hne
        have v1 := wrap_in ((K : Int) + 1) (by omega) (by omega)
        have v2 := wrap_in ((K : Int) + 1 + (nb : Int)) (by omega) (by omega)
        have v3 := wrap_in ((K : Int) + 1 + (nb : Int) + (ne : Int)) (by omega) (by omega)
        have k0 : (0 : Int) ≤ (K : Int) := by omega
        by_cases hm : 0 < m
        · by_cases hnx : K + 1 + nb + ne < a.length
          · have hnx2 : ¬ ((a.length : Int) ≤ (K : Int) + 1 + (nb : Int) + (ne : Int)) := by omega
            go_upto_region 8 with fail
            go_quiet (fail)
            go_wp2_with fail
            go_roundw
            case rel =>
              refine ⟨K + 1 + nb + ne, m - 1, by go_num, by first | rfl | go_num, by omega, by omega, ?_, bt hb (bld)⟩
              have := top_next HTQ.out (by rw [List.length_map, HNB.out, HNE.out]; exact hnx)
              rw [HNB.out, HNE.out] at this
              exact this
            case measure => simp [intOf]; omega
          · have hnx2 : (a.length : Int) ≤ (K : Int) + 1 + (nb : Int) + (ne : Int) := by omega
            go_upto_region 8 with fail
            go_quiet (fail)
            go_upto_region 11 with fail
            have hend : ¬ ((a.length : Int) < (K : Int) + 1 + (nb : Int) + (ne : Int)) := by omega
            obtain ⟨P1, d1, hs1, hv1⟩ := (HA.out _ HQ4.out).cut (K + 1) nb (by omega) ((K : Int) + 1) ((K : Int) + 1 + (nb : Int)) (by omega) (by omega)
            obtain ⟨P2, d2, hs2, hv2⟩ := (HA.out _ HQ4.out).cutH K (by omega) (K : Int) rfl
            obtain ⟨P3, d3, hs3, hv3⟩ := (HA.out _ HQ4.out).cutL (K + 1 + nb + ne) (a.length - (K + 1 + nb + ne)) (by omega) ((K : Int) + 1 + (nb : Int) + (ne : Int)) (by omega)
            obtain ⟨n3, hn3⟩ : ∃ n3, a.length - (K + 1 + nb + ne) = n3 := ⟨_, rfl⟩
            rw [hn3] at hs3 hv3
            have hbod := bodies HRA.out HDD.out HTQ.out
            rw [HNB.out, HNE.out] at hbod
            have hpy : ((a.drop (K + 1)).take nb).map (·.s) = y := by
              rw [part_map, ← HNB.out]
              exact HTY.out
            have hpr : (a.take K ++ a.drop (K + 1 + nb + ne)).map (·.s) = (a.map (·.s)).take K ++ (a.map (·.s)).drop (K + 1 + nb + ne) := by rw [List.map_append, List.map_take, List.map_drop]
            rw [← hpr, ← hpy] at hbod
            have hyl : ((a.drop (K + 1)).take nb).length = nb := by rw [List.length_take, List.length_drop]; omega
            have hrl : (a.take K ++ a.drop (K + 1 + nb + ne)).length = K + n3 := by rw [List.length_append, List.length_take, List.length_drop]; omega
            have HYB : Hid (∀ x ∈ (a.drop (K + 1)).take nb, SvB x.s) := fun x hx => HAN.out x (mem_part x hx)
            have HRB : Hid (∀ x ∈ a.take K ++ a.drop (K + 1 + nb + ne), SvB x.s) := fun x hx => HAN.out x ((List.mem_append.1 hx).elim List.mem_of_mem_take List.mem_of_mem_drop)
            have HV1 := Lib.hid hv1
            have HV2 := Lib.hid hv2
            have HV3 := Lib.hid hv3
            have HBOD := Lib.hid hbod
            have HYL := Lib.hid hyl
            have HRL := Lib.hid hrl
            have hnb40 : nb ≤ 40 := by omega
            have hK40 : K ≤ 40 := by omega
            have hn340 : n3 ≤ 40 := by omega
            have HT1 : Hid (0 + K ≤ maxLen ∧ (0 + K) * 120 ≤ 140737488355328) := by show _ ∧ _; unfold maxLen; constructor <;> omega
            have HT2 : Hid (K + n3 ≤ maxLen ∧ (K + n3) * 120 ≤ 140737488355328) := by show _ ∧ _; unfold maxLen; constructor <;> omega
            have HRR : Hid (rightS ((a.take K ++ a.drop (K + 1 + nb + ne)).map (·.s)) = true) := hbod.2
            clear hv1 hv2 hv3 hbod hpy hpr hyl hrl hn3
            go_quiet (fail)
            go_upto_region 15 with fail
            generalize (a.drop (K + 1)).take nb = Y at HV1 HBOD HYL HYB
            clear hs1 hc6 hc7
            go_wp2_with fail
            go_loopw [11, 12] (fun q t wr2 => ∃ J : Nat, J ≤ nb ∧ q = .bool ((Y.take J).any brk) ∧ t = .int .i64 J ∧ Below w4.heap.size w4 wr2) (fun _ t _ => nb - (intOf t).toNat)
            case atStart => exact ⟨0, Nat.zero_le _, rfl, rfl, bt hb (bld)⟩
            case round =>
              obtain ⟨J, hJ, rfl, rfl, hb2⟩ := hrel
              by_cases hJl : J < nb
              · obtain ⟨bb, ob, cb, hE1, hccb, hbtb, hatb⟩ := HV1.out.at_ (by rw [HYL.out]; omega)
                rw [HYL.out] at hE1
                cases hE1
                have hJY : J < Y.length := by rw [HYL.out]; exact hJl
                have hk0 := ((hatb J hJY).below hb2 hbtb).c0
                have HS := Lib.hid (any_succ Y J hJY)
                have hbk : brk Y[J] = (Y[J].s.kind == 13) := rfl
                have hJl2 : (J : Int) < (nb : Int) := by omega
                have J0 : (0 : Int) ≤ (J : Int) := by omega
                rw [hbk] at HS
                clear hatb hbk
                generalize Y[J].s.kind = kd at hk0 HS
                generalize (Y.take J).any brk = q at HS ⊢
                have HB2 := Lib.hid hb2
                clear hb2 hb
                cases q
                · cases hkd : (kd == 13)
                  · have HS2 : Hid ((Y.take (J + 1)).any brk = false) := by show _ = _; rw [HS.out, hkd]; rfl
                    clear HS
                    go_wp2_with fail
                    go_roundw
                    case rel => exact ⟨J + 1, by omega, by rw [HS2.out], by go_num, HB2.out⟩
                    case measure => simp [intOf]; omega
                  · have HS2 : Hid ((Y.take (J + 1)).any brk = true) := by show _ = _; rw [HS.out, hkd]; rfl
                    clear HS
                    go_wp2_with fail
                    go_roundw
                    case rel => exact ⟨J + 1, by omega, by rw [HS2.out], by go_num, HB2.out⟩
                    case measure => simp [intOf]; omega
                · have HS2 : Hid ((Y.take (J + 1)).any brk = true) := by show _ = _; rw [HS.out]; rfl
                  clear HS
                  go_wp2_with fail
                  go_roundw
                  case rel => exact ⟨J + 1, by omega, by rw [HS2.out], by go_num, HB2.out⟩
                  case measure => simp [intOf]; omega
              · have hJe : J = nb := by omega
                have hJl2 : ¬ ((J : Int) < (nb : Int)) := by omega
                have HAY : Hid ((Y.take J).any brk = Y.any brk) := by show _ = _; rw [List.take_of_length_le (by rw [HYL.out]; omega)]
                rw [HAY.out]
                have HQ2 : Hid (Below w1.heap.size w1 wr) := bt HQ4.out hb2
                have HM2 := Lib.hid hb2
                have lK : (a.take K).length = K := by rw [List.length_take]; omega
                have lN : (a.drop (K + 1 + nb + ne)).length = n3 := by have := HRL.out; rw [List.length_append, lK] at this; omega
                have HSL2 : Hid (∀ u, Below wr.heap.size wr u → SlN u (.slice P2 K d2) 9 K ((a.take K).flatMap Sv.cells)) := fun u hu => by
                  have := (HV2.out.below (bt HM2.out hu)).1
                  rw [lK] at this
                  exact this
                have HSL3 : Hid (∀ u, Below wr.heap.size wr u → SlN u (.slice P3 n3 d3) 9 n3 ((a.drop (K + 1 + nb + ne)).flatMap Sv.cells)) := fun u hu => by
                  have := (HV3.out.below (bt HM2.out hu)).1
                  rw [lN] at this
                  exact this
                have HO2 := Lib.hid (own_emptyC wr 31 9 (by decide))
                have HH2 : Hid (wr.heap.size ≤ (wr.alloc (.cells #[] 31)).heap.size) := (al wr _).size
                clear lK lN hJe hJ hJl hb hb2
                obtain ⟨BR, hBR⟩ : ∃ B, Y.any brk = B := ⟨_, rfl⟩
                rw [hBR]
                have HBRK := Lib.hid hBR
                clear hBR HAY
                have hs2' := hs2
                have hs3' := hs3
                clear hs2 hs3
                have hs2 := hs2'
                have hs3 := hs3'
                clear hs2' hs3'
                go_upto_region 21 with (at_builtin; refine wpl_app rfl _ _ 24 rfl wr.heap.size 31 i0 _ 9 120 Tryz.underlying24 hi0 hz0 hz1 hz2 rfl (by decide) (.slice (some ⟨wr.heap.size, 0, none⟩) 0 0) 0 [] rfl HO2.out (.slice P2 K d2) K ((a.take K).flatMap Sv.cells) rfl (HSL2.out _ (al _ _)) HV2.out.ones HT1.out.1 HT1.out.2 HH2.out ?_; intro v6 w6 hown6 hb6; obtain ⟨A6, c6, rfl⟩ := own_shape hown6)
                have HB6 : Hid (Below wr.heap.size wr w6) := (al wr _).trans hb6
                simp only [Nat.zero_add, List.nil_append] at hown6 ⊢
                have HO6 := Lib.hid hown6
                have HH6 : Hid (wr.heap.size ≤ w6.heap.size) := HB6.out.size
                clear hown6 hb6 HO2 HH2 HT1
                go_upto_region 22 with (at_builtin; refine wpl_app rfl _ _ 24 rfl wr.heap.size 31 i0 _ 9 120 Tryz.underlying24 hi0 hz0 hz1 hz2 rfl (by decide) (.slice A6 K c6) K ((a.take K).flatMap Sv.cells) rfl HO6.out (.slice P3 n3 d3) n3 ((a.drop (K + 1 + nb + ne)).flatMap Sv.cells) rfl (HSL3.out _ HB6.out) HV3.out.ones HT2.out.1 HT2.out.2 HH6.out ?_; intro v7 w7 hown7 hb7; obtain ⟨A7, c7, rfl⟩ := own_shape hown7)
                have HB7 : Hid (Below wr.heap.size wr w7) := HB6.out.trans hb7
                have HQ7 : Hid (Below w1.heap.size w1 w7) := bt HQ2.out HB7.out
                have HM7 : Hid (Below w4.heap.size w4 w7) := bt HM2.out HB7.out
                rw [← List.flatMap_append] at hown7
                have HSR : Hid (Svs w7 (.slice A7 (K + n3) c7) (a.take K ++ a.drop (K + 1 + nb + ne))) := svs_own HRL.out.symm hown7 (fun x hx => (HA.out _ HQ7.out).2 x ((List.mem_append.1 hx).elim List.mem_of_mem_take List.mem_of_mem_drop))
                have HLR := HRL
                clear hown7 hb7 HO6 HH6 HT2 HB6 HSL2 HSL3 hs2 hs3
                generalize a.take K ++ a.drop (K + 1 + nb + ne) = R at HSR HRR HLR HRB HBOD HRL
                have hRl : R.length ≤ 100000 := by have := HLR.out; omega
                generalize K + n3 = nR at HSR HLR HRL ⊢
                have KR : Hid (∀ x, Below w7.heap.size w7 x → Calls Tryz.prog 16 #[.slice A7 nR c7] x fun e w' => e = .returned (.bool true) ∧ Below x.heap.size x w') := fun x hx => by
                  have := RightS_c R hRl HRB.out _ x (HSR.out.below hx) (HEN.out _ (bt HQ7.out hx))
                  rw [HRR.out] at this; exact this
                have hYl : Y.length ≤ 100000 := by have := HYL.out; omega
                cases BR
                · obtain ⟨g1, g2⟩ := HBOD.out.1 (brk_none HBRK.out)
                  have K2 : Hid (∀ x, Below w7.heap.size w7 x → Calls Tryz.prog 16 #[.slice P1 nb d1] x fun e w' => e = .returned (.bool true) ∧ Below x.heap.size x w') := fun x hx => by
                    have := RightS_c Y hYl HYB.out _ x (HV1.out.below (bt HM7.out hx)) (HEN.out _ (bt HQ7.out hx))
                    rw [g1] at this; exact this
                  have K3 : Hid (∀ x, Below w7.heap.size w7 x → Calls Tryz.prog 20 #[.slice P1 nb d1] x fun e w' => e = .returned (.int .i64 (depthS (Y.map (·.s)))) ∧ Below x.heap.size x w') := fun x hx => DepthS_c Y hYl HYB.out _ x (HV1.out.below (bt HM7.out hx)) (HEN.out _ (bt HQ7.out hx))
                  by_cases hn0 : nb = 0
                  · have e0 : ((nb : Int) == 0) = true := by simp [hn0]
                    clear hn0 g1 g2 hRl hYl h0
                    go_wp2_with (first
                      | (go_at_call_of 16 (Value.slice P1 nb d1); refine (K2.out _ (Below.refl _ _)).mono ?_; rintro e x1 ⟨rfl, r1⟩)
                      | (go_at_call 16; refine (KR.out _ r1).mono ?_; rintro e x2 ⟨rfl, p2⟩; have r2 := bt r1 p2; clear p2 r1)
                      | (go_at_call 14; refine (fixed_c _ (HEN.out _ (bt HQ7.out r2))).mono ?_; rintro e w16 ⟨rfl, p16⟩))
                    go_ret
                    exact ⟨rfl, bt HB1.out (bt HQ7.out (bt r2 p16))⟩
                  · have e0 : ((nb : Int) == 0) = false := by rw [beq_eq_false_iff_ne]; omega
                    have hdlt : depthS (Y.map (·.s)) < (D : Int) := by
                      rcases g2 with h | h
                      · exact absurd (by have := congrArg List.length h; rw [List.length_map, HYL.out] at this; exact this) hn0
                      · exact h
                    clear hn0 g1 g2 hRl hYl h0
                    generalize depthS (Y.map (·.s)) = dy at K3 hdlt
                    go_wp2_with (first
                      | (go_at_call_of 16 (Value.slice P1 nb d1); refine (K2.out _ (Below.refl _ _)).mono ?_; rintro e x1 ⟨rfl, r1⟩)
                      | (go_at_call 20; refine (K3.out _ r1).mono ?_; rintro e x3 ⟨rfl, p3⟩; have r3 := bt r1 p3; clear p3 r1)
                      | (go_at_call 16; refine (KR.out _ r3).mono ?_; rintro e x2 ⟨rfl, p2⟩; have r2 := bt r3 p2; clear p2 r3)
                      | (go_at_call 14; refine (fixed_c _ (HEN.out _ (bt HQ7.out r2))).mono ?_; rintro e w16 ⟨rfl, p16⟩))
                    go_ret
                    exact ⟨rfl, bt HB1.out (bt HQ7.out (bt r2 p16))⟩
                · clear hRl hYl h0
                  go_wp2_with (first
                    | (go_at_call 16; refine (KR.out _ (Below.refl _ _)).mono ?_; rintro e x2 ⟨rfl, r2⟩)
                    | (go_at_call 14; refine (fixed_c _ (HEN.out _ (bt HQ7.out r2))).mono ?_; rintro e w16 ⟨rfl, p16⟩))
                  go_ret
                  exact ⟨rfl, bt HB1.out (bt HQ7.out (bt r2 p16))⟩
        · have hm2 : ¬ (0 < m) := hm
          go_upto_region 11 with fail
          have hend : ¬ ((a.length : Int) < (K : Int) + 1 + (nb : Int) + (ne : Int)) := by omega
          obtain ⟨P1, d1, hs1, hv1⟩ := (HA.out _ HQ4.out).cut (K + 1) nb (by omega) ((K : Int) + 1) ((K : Int) + 1 + (nb : Int)) (by omega) (by omega)
          obtain ⟨P2, d2, hs2, hv2⟩ := (HA.out _ HQ4.out).cutH K (by omega) (K : Int) rfl
          obtain ⟨P3, d3, hs3, hv3⟩ := (HA.out _ HQ4.out).cutL (K + 1 + nb + ne) (a.length - (K + 1 + nb + ne)) (by omega) ((K : Int) + 1 + (nb : Int) + (ne : Int)) (by omega)
          obtain ⟨n3, hn3⟩ : ∃ n3, a.length - (K + 1 + nb + ne) = n3 := ⟨_, rfl⟩
          rw [hn3] at hs3 hv3
          have hbod := bodies HRA.out HDD.out HTQ.out
          rw [HNB.out, HNE.out] at hbod
          have hpy : ((a.drop (K + 1)).take nb).map (·.s) = y := by
            rw [part_map, ← HNB.out]
            exact HTY.out
          have hpr : (a.take K ++ a.drop (K + 1 + nb + ne)).map (·.s) = (a.map (·.s)).take K ++ (a.map (·.s)).drop (K + 1 + nb + ne) := by rw [List.map_append, List.map_take, List.map_drop]
          rw [← hpr, ← hpy] at hbod
          have hyl : ((a.drop (K + 1)).take nb).length = nb := by rw [List.length_take, List.length_drop]; omega
          have hrl : (a.take K ++ a.drop (K + 1 + nb + ne)).length = K + n3 := by rw [List.length_append, List.length_take, List.length_drop]; omega
          have HYB : Hid (∀ x ∈ (a.drop (K + 1)).take nb, SvB x.s) := fun x hx => HAN.out x (mem_part x hx)
          have HRB : Hid (∀ x ∈ a.take K ++ a.drop (K + 1 + nb + ne), SvB x.s) := fun x hx => HAN.out x ((List.mem_append.1 hx).elim List.mem_of_mem_take List.mem_of_mem_drop)
          have HV1 := Lib.hid hv1
          have HV2 := Lib.hid hv2
          have HV3 := Lib.hid hv3
          have HBOD := Lib.hid hbod
          have HYL := Lib.hid hyl
          have HRL := Lib.hid hrl
          have hnb40 : nb ≤ 40 := by omega
          have hK40 : K ≤ 40 := by omega
          have hn340 : n3 ≤ 40 := by omega
          have HT1 : Hid (0 + K ≤ maxLen ∧ (0 + K) * 120 ≤ 140737488355328) := by show _ ∧ _; unfold maxLen; constructor <;> omega
          have HT2 : Hid (K + n3 ≤ maxLen ∧ (K + n3) * 120 ≤ 140737488355328) := by show _ ∧ _; unfold maxLen; constructor <;> omega
          have HRR : Hid (rightS ((a.take K ++ a.drop (K + 1 + nb + ne)).map (·.s)) = true) := hbod.2
          clear hv1 hv2 hv3 hbod hpy hpr hyl hrl hn3
          go_quiet (fail)
          go_upto_region 15 with fail
          generalize (a.drop (K + 1)).take nb = Y at HV1 HBOD HYL HYB
          clear hs1 hc6 hc7
          go_wp2_with fail
          go_loopw [11, 12] (fun q t wr2 => ∃ J : Nat, J ≤ nb ∧ q = .bool ((Y.take J).any brk) ∧ t = .int .i64 J ∧ Below w4.heap.size w4 wr2) (fun _ t _ => nb - (intOf t).toNat)
          case atStart => exact ⟨0, Nat.zero_le _, rfl, rfl, bt hb (bld)⟩
          case round =>
            obtain ⟨J, hJ, rfl, rfl, hb2⟩ := hrel
            by_cases hJl : J < nb
            · obtain ⟨bb, ob, cb, hE1, hccb, hbtb, hatb⟩ := HV1.out.at_ (by rw [HYL.out]; omega)
              rw [HYL.out] at hE1
              cases hE1
              have hJY : J < Y.length := by rw [HYL.out]; exact hJl
              have hk0 := ((hatb J hJY).below hb2 hbtb).c0
              have HS := Lib.hid (any_succ Y J hJY)
              have hbk : brk Y[J] = (Y[J].s.kind == 13) := rfl
              have hJl2 : (J : Int) < (nb : Int) := by omega
              have J0 : (0 : Int) ≤ (J : Int) := by omega
              rw [hbk] at HS
              clear hatb hbk
              generalize Y[J].s.kind = kd at hk0 HS
              generalize (Y.take J).any brk = q at HS ⊢
              have HB2 := Lib.hid hb2
              clear hb2 hb
              cases q
              · cases hkd : (kd == 13)
                · have HS2 : Hid ((Y.take (J + 1)).any brk = false) := by show _ = _; rw [HS.out, hkd]; rfl
                  clear HS
                  go_wp2_with fail
                  go_roundw
                  case rel => exact ⟨J + 1, by omega, by rw [HS2.out], by go_num, HB2.out⟩
                  case measure => simp [intOf]; omega
                · have HS2 : Hid ((Y.take (J + 1)).any brk = true) := by show _ = _; rw [HS.out, hkd]; rfl
                  clear HS
                  go_wp2_with fail
                  go_roundw
                  case rel => exact ⟨J + 1, by omega, by rw [HS2.out], by go_num, HB2.out⟩
                  case measure => simp [intOf]; omega
              · have HS2 : Hid ((Y.take (J + 1)).any brk = true) := by show _ = _; rw [HS.out]; rfl
                clear HS
                go_wp2_with fail
                go_roundw
                case rel => exact ⟨J + 1, by omega, by rw [HS2.out], by go_num, HB2.out⟩
                case measure => simp [intOf]; omega
            · have hJe : J = nb := by omega
              have hJl2 : ¬ ((J : Int) < (nb : Int)) := by omega
              have HAY : Hid ((Y.take J).any brk = Y.any brk) := by show _ = _; rw [List.take_of_length_le (by rw [HYL.out]; omega)]
              rw [HAY.out]
              have HQ2 : Hid (Below w1.heap.size w1 wr) := bt HQ4.out hb2
              have HM2 := Lib.hid hb2
              have lK : (a.take K).length = K := by rw [List.length_take]; omega
              have lN : (a.drop (K + 1 + nb + ne)).length = n3 := by have := HRL.out; rw [List.length_append, lK] at this; omega
              have HSL2 : Hid (∀ u, Below wr.heap.size wr u → SlN u (.slice P2 K d2) 9 K ((a.take K).flatMap Sv.cells)) := fun u hu => by
                have := (HV2.out.below (bt HM2.out hu)).1
                rw [lK] at this
                exact this
              have HSL3 : Hid (∀ u, Below wr.heap.size wr u → SlN u (.slice P3 n3 d3) 9 n3 ((a.drop (K + 1 + nb + ne)).flatMap Sv.cells)) := fun u hu => by
                have := (HV3.out.below (bt HM2.out hu)).1
                rw [lN] at this
                exact this
              have HO2 := Lib.hid (own_emptyC wr 31 9 (by decide))
              have HH2 : Hid (wr.heap.size ≤ (wr.alloc (.cells #[] 31)).heap.size) := (al wr _).size
              clear lK lN hJe hJ hJl hb hb2
              obtain ⟨BR, hBR⟩ : ∃ B, Y.any brk = B := ⟨_, rfl⟩
              rw [hBR]
              have HBRK := Lib.hid hBR
              clear hBR HAY
              have hs2' := hs2
              have hs3' := hs3
              clear hs2 hs3
              have hs2 := hs2'
              have hs3 := hs3'
              clear hs2' hs3'
              go_upto_region 21 with (at_builtin; refine wpl_app rfl _ _ 24 rfl wr.heap.size 31 i0 _ 9 120 Tryz.underlying24 hi0 hz0 hz1 hz2 rfl (by decide) (.slice (some ⟨wr.heap.size, 0, none⟩) 0 0) 0 [] rfl HO2.out (.slice P2 K d2) K ((a.take K).flatMap Sv.cells) rfl (HSL2.out _ (al _ _)) HV2.out.ones HT1.out.1 HT1.out.2 HH2.out ?_; intro v6 w6 hown6 hb6; obtain ⟨A6, c6, rfl⟩ := own_shape hown6)
              have HB6 : Hid (Below wr.heap.size wr w6) := (al wr _).trans hb6
              simp only [Nat.zero_add, List.nil_append] at hown6 ⊢
              have HO6 := Lib.hid hown6
              have HH6 : Hid (wr.heap.size ≤ w6.heap.size) := HB6.out.size
              clear hown6 hb6 HO2 HH2 HT1
              go_upto_region 22 with (at_builtin; refine wpl_app rfl _ _ 24 rfl wr.heap.size 31 i0 _ 9 120 Tryz.underlying24 hi0 hz0 hz1 hz2 rfl (by decide) (.slice A6 K c6) K ((a.take K).flatMap Sv.cells) rfl HO6.out (.slice P3 n3 d3) n3 ((a.drop (K + 1 + nb + ne)).flatMap Sv.cells) rfl (HSL3.out _ HB6.out) HV3.out.ones HT2.out.1 HT2.out.2 HH6.out ?_; intro v7 w7 hown7 hb7; obtain ⟨A7, c7, rfl⟩ := own_shape hown7)
              have HB7 : Hid (Below wr.heap.size wr w7) := HB6.out.trans hb7
              have HQ7 : Hid (Below w1.heap.size w1 w7) := bt HQ2.out HB7.out
              have HM7 : Hid (Below w4.heap.size w4 w7) := bt HM2.out HB7.out
              rw [← List.flatMap_append] at hown7
              have HSR : Hid (Svs w7 (.slice A7 (K + n3) c7) (a.take K ++ a.drop (K + 1 + nb + ne))) := svs_own HRL.out.symm hown7 (fun x hx => (HA.out _ HQ7.out).2 x ((List.mem_append.1 hx).elim List.mem_of_mem_take List.mem_of_mem_drop))
              have HLR := HRL
              clear hown7 hb7 HO6 HH6 HT2 HB6 HSL2 HSL3 hs2 hs3
              generalize a.take K ++ a.drop (K + 1 + nb + ne) = R at HSR HRR HLR HRB HBOD HRL
              have hRl : R.length ≤ 100000 := by have := HLR.out; omega
              generalize K + n3 = nR at HSR HLR HRL ⊢
              have KR : Hid (∀ x, Below w7.heap.size w7 x → Calls Tryz.prog 16 #[.slice A7 nR c7] x fun e w' => e = .returned (.bool true) ∧ Below x.heap.size x w') := fun x hx => by
                have := RightS_c R hRl HRB.out _ x (HSR.out.below hx) (HEN.out _ (bt HQ7.out hx))
                rw [HRR.out] at this; exact this
              have hYl : Y.length ≤ 100000 := by have := HYL.out; omega
              cases BR
              · obtain ⟨g1, g2⟩ := HBOD.out.1 (brk_none HBRK.out)
                have K2 : Hid (∀ x, Below w7.heap.size w7 x → Calls Tryz.prog 16 #[.slice P1 nb d1] x fun e w' => e = .returned (.bool true) ∧ Below x.heap.size x w') := fun x hx => by
                  have := RightS_c Y hYl HYB.out _ x (HV1.out.below (bt HM7.out hx)) (HEN.out _ (bt HQ7.out hx))
                  rw [g1] at this; exact this
                have K3 : Hid (∀ x, Below w7.heap.size w7 x → Calls Tryz.prog 20 #[.slice P1 nb d1] x fun e w' => e = .returned (.int .i64 (depthS (Y.map (·.s)))) ∧ Below x.heap.size x w') := fun x hx => DepthS_c Y hYl HYB.out _ x (HV1.out.below (bt HM7.out hx)) (HEN.out _ (bt HQ7.out hx))
                by_cases hn0 : nb = 0
                · have e0 : ((nb : Int) == 0) = true := by simp [hn0]
                  clear hn0 g1 g2 hRl hYl h0
                  go_wp2_with (first
                    | (go_at_call_of 16 (Value.slice P1 nb d1); refine (K2.out _ (Below.refl _ _)).mono ?_; rintro e x1 ⟨rfl, r1⟩)
                    | (go_at_call 16; refine (KR.out _ r1).mono ?_; rintro e x2 ⟨rfl, p2⟩; have r2 := bt r1 p2; clear p2 r1)
                    | (go_at_call 14; refine (fixed_c _ (HEN.out _ (bt HQ7.out r2))).mono ?_; rintro e w16 ⟨rfl, p16⟩))
                  go_ret
                  exact ⟨rfl, bt HB1.out (bt HQ7.out (bt r2 p16))⟩
                · have e0 : ((nb : Int) == 0) = false := by rw [beq_eq_false_iff_ne]; omega
                  have hdlt : depthS (Y.map (·.s)) < (D : Int) := by
                    rcases g2 with h | h
                    · exact absurd (by have := congrArg List.length h; rw [List.length_map, HYL.out] at this; exact this) hn0
                    · exact h
                  clear hn0 g1 g2 hRl hYl h0
                  generalize depthS (Y.map (·.s)) = dy at K3 hdlt
                  go_wp2_with (first
                    | (go_at_call_of 16 (Value.slice P1 nb d1); refine (K2.out _ (Below.refl _ _)).mono ?_; rintro e x1 ⟨rfl, r1⟩)
                    | (go_at_call 20; refine (K3.out _ r1).mono ?_; rintro e x3 ⟨rfl, p3⟩; have r3 := bt r1 p3; clear p3 r1)
                    | (go_at_call 16; refine (KR.out _ r3).mono ?_; rintro e x2 ⟨rfl, p2⟩; have r2 := bt r3 p2; clear p2 r3)
                    | (go_at_call 14; refine (fixed_c _ (HEN.out _ (bt HQ7.out r2))).mono ?_; rintro e w16 ⟨rfl, p16⟩))
                  go_ret
                  exact ⟨rfl, bt HB1.out (bt HQ7.out (bt r2 p16))⟩
              · clear hRl hYl h0
                go_wp2_with (first
                  | (go_at_call 16; refine (KR.out _ (Below.refl _ _)).mono ?_; rintro e x2 ⟨rfl, r2⟩)
                  | (go_at_call 14; refine (fixed_c _ (HEN.out _ (bt HQ7.out r2))).mono ?_; rintro e w16 ⟨rfl, p16⟩))
                go_ret
                exact ⟨rfl, bt HB1.out (bt HQ7.out (bt r2 p16))⟩
end Go.Proofs.YtaoeaaebafcegaaGreatDoor

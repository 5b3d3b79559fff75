/- Chapter 04 (statements), joined: StmPlG, StLwE. -/
import Derived.Test.YtaoeaaebafcegaaGreatDoorPkC248
import Derived.Test.YtaoeaaebafcegaaGreatDoorPkC49
set_option maxRecDepth 100000
set_option maxHeartbeats 16000000
namespace Go.Proofs.YtaoeaaebafcegaaGreatDoor
open Go Go.RowKit
set_option linter.unusedVariables false
theorem right_of_rd {l:List St} {d:Nat} (h:Rd false l d) (hf:∀ x∈l,Fits x):rightS l=(decide (l.length≤40) && decide (d≤12)):=by
 have e1:l.all fitsS=true:=List.all_eq_true.2 (fun x hx=>(fits_iff x).2 (hf x hx))
 have e2:=rd_deepF h l.length (Nat.le_refl _)
 unfold rightS
 have e3:decide ((d:Int)≤12)=decide (d≤12):=decide_eq_decide.2 (by omega)
 rw [e1,e2,e3,decide_eq_true (show (0:Int)≤(d:Int) by omega)]
 simp
def wrapL (n:Int) (k:Nat):St:=⟨12,[],[],[],[],n,k,0,0⟩
def wrapI (k:Nat):St:=⟨11,[],[],[⟨1,1,[],0⟩],[],0,k,k,0⟩
theorem right_one:rightE [⟨1,1,[],0⟩] = true:=by
 have:=rightE_flat (.leaf ⟨1,1,[],0⟩) rfl
 exact this
theorem fits_wrapL {n:Int} (h1:1≤n) (h8:n≤8) (k:Nat):Fits (wrapL n k):=⟨by show (1:Int)≤12;omega,by show (12:Int)≤14;omega,Int.le_refl _,by show (0:Int)≤4000;omega,rfl,rfl,rfl,rfl,⟨h1,h8⟩⟩
theorem fits_wrapI (k:Nat):Fits (wrapI k):=⟨by show (1:Int)≤11;omega,by show (11:Int)≤14;omega,Int.le_refl _,by show (0:Int)≤4000;omega,rfl,rfl,right_one,rfl,rfl⟩
theorem wraps {l:List St} (hl:rightS l=true) {n:Int} (h1:1≤n) (h8:n≤8) :
 rightS (wrapL n l.length :: l)=(decide (depthS l < 12) && decide (l.length < 40))∧rightS (wrapI l.length :: (l++l))=(decide (depthS l < 12) && decide (2*l.length < 40)) ∧
 (rightS (wrapL n l.length :: l)=true→depthS (wrapL n l.length :: l)=depthS l+1)∧(rightS (wrapI l.length :: (l++l))=true→depthS (wrapI l.length :: (l++l))=depthS l+1):=by
 obtain ⟨g1,g2,d,g3,g4⟩:=(rightS_iff l).1 hl
 have hd:=depthS_of hl g4
 have r1:Rd false (wrapL n l.length :: l) (d+1):=by
  have:=Rd.loop (b:=false) (x:=wrapL n l.length) rfl rfl rfl g4.weak .nil
  rw [List.append_nil] at this
  rwa [show max 0 (d+1)=d+1 by omega] at this
 have r2:Rd false (wrapI l.length :: (l++l)) (d+1):=by
  have:=Rd.ifs (b:=false) (x:=wrapI l.length) rfl rfl rfl g4 g4 .nil
  rw [List.append_nil] at this
  rwa [show max 0 (max (d+1) (d+1))=d+1 by omega] at this
 have f1:∀ x∈wrapL n l.length :: l,Fits x:=fun x hx=>by
  rcases List.mem_cons.1 hx with rfl | h
  ·exact fits_wrapL h1 h8 _
  ·exact g2 x h
 have f2:∀ x∈wrapI l.length :: (l++l),Fits x:=fun x hx=>by
  rcases List.mem_cons.1 hx with rfl | h
  ·exact fits_wrapI _
  ·exact (List.mem_append.1 h).elim (g2 x) (g2 x)
 have dd:∀ {a b c e:Prop} [Decidable a] [Decidable b] [Decidable c] [Decidable e],(a ↔ e)→(b ↔ c)→(decide a && decide b)=(decide c && decide e):=fun h1 h2=>by
  rw [decide_eq_decide.2 h1,decide_eq_decide.2 h2,Bool.and_comm]
 refine ⟨?_,?_,fun h=>?_,fun h=>?_⟩
 ·rw [right_of_rd r1 f1,hd]
  exact dd (by simp only [List.length_cons];omega) (by omega)
 ·rw [right_of_rd r2 f2,hd]
  exact dd (by simp only [List.length_cons,List.length_append];omega) (by omega)
 ·rw [depthS_of h r1,hd];rfl
 ·rw [depthS_of h r2,hd];rfl
theorem and7 (x:Int):0≤bits BinOp.and IntKind.i64 x 7∧bits BinOp.and IntKind.i64 x 7 < 8:=by
 simp only [bits]
 have h:((BitVec.ofInt IntKind.i64.bits x) &&& (BitVec.ofInt IntKind.i64.bits 7)).toNat≤7:=by
  rw [BitVec.toNat_and];exact Nat.and_le_right
 rw [IntKind.wrap_i64]
 omega
theorem own_lit1 (w:World) (x:Sv) (h:Nat) (hh:h=w.heap.size):(w.alloc (.cells #[.int .i64 x.s.kind,.string (str x.s.reg),.string (str x.s.name),x.ev,x.fv,.int .i64 x.s.n,.int .i64 x.s.body,.int .i64 x.s.els,.int .i64 x.s.pos] 31)).ownsRow h 31 9 (.slice (some ⟨h,0,none⟩) 1 1) 1 ([x].flatMap Sv.cells):=by
 subst hh
 have:=World.ownsRow_lit (base:=w.heap.size) (e:=31) (size:=9) w #[.int .i64 x.s.kind,.string (str x.s.reg),.string (str x.s.name),x.ev,x.fv,.int .i64 x.s.n,.int .i64 x.s.body,.int .i64 x.s.els,.int .i64 x.s.pos] 1 (Nat.le_refl _) (by decide) rfl
 rw [show [x].flatMap Sv.cells=Sv.cells x by simp]
 exact this
def svL (z:Int) (k:Nat):Sv:=⟨wrapL z k,.slice none 0 0,.slice none 0 0⟩
def svI (g k:Nat):Sv:=⟨wrapI k,.slice (some ⟨g,0,none⟩) 1 1,.slice none 0 0⟩
theorem node_one (w:World):Nods (w.alloc (.cells #[.int .i64 1,.int .i64 1,.string ⟨#[]⟩,.int .i64 0] 33)) (.slice (some ⟨w.heap.size,0,none⟩) 1 1) [⟨1,1,[],0⟩] :=
 sl_lit w (Nod.cells ⟨1,1,[],0⟩) 33 4 1 1 rfl (Nat.le_refl _)
theorem wraps_c (l : List Sv) (hl : l.length ≤ 9223372036854775807) (hln : ∀ x ∈ l, SvA x.s) (n : Int)
    (v : Value) (w : World) (hv : Svs w v l) (hE : Env w) :
    Calls Tryz.prog 9 #[v, .int .i64 n] w (Yes w) := by
  obtain ⟨i0, hi0, hz0, hz1, hz2⟩ := info_parts info_stmt
  have HE := Lib.hid hE
  have HC1 := Lib.hid (CutS_c l hl hln v w hv)
  obtain ⟨A0, c0, rfl, hc0⟩ := hv.shape
  clear hv hE hl hln hc0
  go_enter Tryz.func9, Tryz.ntmps9
  go_upto_region 2 with (go_at_call 15; refine (HC1.out).mono ?_; rintro e w1 ⟨a, A1, c1, rfl, hm1, hv1, hb1⟩)
  have HB1 := Lib.hid hb1
  have HN1 := Lib.hid hv1
  obtain ⟨ha, han⟩ := cut_B hm1
  clear hv1 hb1 hm1 HC1
  have HEN : Hid (∀ x, Below w1.heap.size w1 x → Env x) := fun x hx => HE.out.below (bt HB1.out hx)
  have HA : Hid (∀ x, Below w1.heap.size w1 x → Svs x (.slice A1 a.length c1) a) := fun x hx => HN1.out.below hx
  have K1 : Hid (∀ x, Below w1.heap.size w1 x → Calls Tryz.prog 16 #[.slice A1 a.length c1] x fun e w' => e = .returned (.bool (rightS (a.map (·.s)))) ∧ Below x.heap.size x w') := fun x hx => RightS_c a (by omega) han _ x (HA.out x hx) (HEN.out x hx)
  cases hra : rightS (a.map (·.s))
  · rw [hra] at K1
    clear hra ha han HA
    go_wp2_with (first
      | (go_at_call 16; refine (K1.out _ (Below.refl _ _)).mono ?_; rintro e w3 ⟨rfl, q3⟩)
      | (go_at_call 14; refine (fixed_c _ (HEN.out _ q3)).mono ?_; rintro e w16 ⟨rfl, p16⟩))
    go_ret
    exact ⟨rfl, bt (bt HB1.out q3) p16⟩
  · rw [hra] at K1
    have HRA := Lib.hid hra
    have hd0 : 0 ≤ depthS (a.map (·.s)) ∧ depthS (a.map (·.s)) ≤ 12 := by
      obtain ⟨_, _, d, h3, h4⟩ := (rightS_iff _).1 hra
      rw [depthS_of hra h4]
      omega
    have K5 : Hid (∀ x, Below w1.heap.size w1 x → Calls Tryz.prog 20 #[.slice A1 a.length c1] x fun e w' => e = .returned (.int .i64 (depthS (a.map (·.s)))) ∧ Below x.heap.size x w') := fun x hx => DepthS_c a (by omega) han _ x (HA.out x hx) (HEN.out x hx)
    have ha40 : a.length ≤ 40 := (right_parts hra).1
    clear hra
    go_upto_region 5 with (first
      | (go_at_call 16; refine (K1.out _ (Below.refl _ _)).mono ?_; rintro e w3 ⟨rfl, q3⟩)
      | (go_at_call 20; refine (K5.out _ q3).mono ?_; rintro e w4 ⟨rfl, p4⟩; have q4 := bt q3 p4; clear p4 q3))
    obtain ⟨y0, y1⟩ := and7 n
    obtain ⟨y, hy⟩ : ∃ y, bits BinOp.and IntKind.i64 n 7 = y := ⟨_, rfl⟩
    rw [hy] at y0 y1
    have hyw : IntKind.i64.wrap (1 + y) = 1 + y := IntWalk.i64_in _ (by omega)
    have HQ4 := Lib.hid q4
    have HO4 : Hid ((w4.alloc (.cells #[.int .i64 12, .string ⟨#[]⟩, .string ⟨#[]⟩, .slice none 0 0, .slice none 0 0, .int .i64 (1 + y), .int .i64 (a.length : Int), .int .i64 0, .int .i64 0] 31)).ownsRow w4.heap.size 31 9 (.slice (some ⟨w4.heap.size, 0, none⟩) 1 1) 1 ([svL (1 + y) a.length].flatMap Sv.cells)) := own_lit1 w4 (svL (1 + y) a.length) w4.heap.size rfl
    have HA4 : Hid (Svs (w4.alloc (.cells #[.int .i64 12, .string ⟨#[]⟩, .string ⟨#[]⟩, .slice none 0 0, .slice none 0 0, .int .i64 (1 + y), .int .i64 (a.length : Int), .int .i64 0, .int .i64 0] 31)) (.slice A1 a.length c1) a) := HA.out _ (balloc q4 _)
    have HS4 : Hid (w4.heap.size ≤ (w4.alloc (.cells #[.int .i64 12, .string ⟨#[]⟩, .string ⟨#[]⟩, .slice none 0 0, .slice none 0 0, .int .i64 (1 + y), .int .i64 (a.length : Int), .int .i64 0, .int .i64 0] 31)).heap.size) := (al w4 _).size
    have HT4 : Hid (1 + a.length ≤ maxLen ∧ (1 + a.length) * 120 ≤ 140737488355328) := by show _ ∧ _; unfold maxLen; constructor <;> omega
    have HT5 : Hid (1 + a.length + a.length ≤ maxLen ∧ (1 + a.length + a.length) * 120 ≤ 140737488355328) := by show _ ∧ _; unfold maxLen; constructor <;> omega
    clear q4
    go_upto_region 6 with (at_builtin; refine wpl_app rfl _ _ 24 rfl w4.heap.size 31 i0 _ 9 120 Tryz.underlying24 hi0 hz0 hz1 hz2 rfl (by decide) (.slice (some ⟨w4.heap.size, 0, none⟩) 1 1) 1 ([svL (1 + y) a.length].flatMap Sv.cells) rfl HO4.out (.slice A1 a.length c1) a.length (a.flatMap Sv.cells) rfl HA4.out.1 HA4.out.ones HT4.out.1 HT4.out.2 HS4.out ?_; intro v5 w5 hown5 hb5; obtain ⟨A5, c5, rfl⟩ := own_shape hown5)
    have HB5 : Hid (Below w4.heap.size w4 w5) := (al w4 _).trans hb5
    have HQ5 : Hid (Below w1.heap.size w1 w5) := bt HQ4.out HB5.out
    rw [← List.flatMap_append] at hown5
    have HSV : Hid (Svs w5 (.slice A5 (1 + a.length) c5) ([svL (1 + y) a.length] ++ a)) := svs_own (by rw [List.length_append]; rfl) hown5 (fun x hx => by
      rcases List.mem_append.1 hx with h | h
      · simp only [List.mem_cons, List.not_mem_nil, or_false] at h
        subst h
        exact ⟨Sl.nil _ _ _, Sl.nil _ _ _⟩
      · exact (HA.out _ HQ5.out).2 x h)
    clear hown5 hb5 HO4 HA4 HS4 HB5
    have HO6 : Hid (((w5.alloc (.cells #[.int .i64 1, .int .i64 1, .string ⟨#[]⟩, .int .i64 0] 33)).alloc (.cells #[.int .i64 11, .string ⟨#[]⟩, .string ⟨#[]⟩, .slice (some ⟨w5.heap.size, 0, none⟩) 1 1, .slice none 0 0, .int .i64 0, .int .i64 (a.length : Int), .int .i64 (a.length : Int), .int .i64 0] 31)).ownsRow (w5.heap.size + 1) 31 9 (.slice (some ⟨w5.heap.size + 1, 0, none⟩) 1 1) 1 ([svI w5.heap.size a.length].flatMap Sv.cells)) := own_lit1 (w5.alloc (.cells #[.int .i64 1, .int .i64 1, .string ⟨#[]⟩, .int .i64 0] 33)) (svI w5.heap.size a.length) (w5.heap.size + 1) (by rw [World.size_alloc])
    have HA6 : Hid (Svs ((w5.alloc (.cells #[.int .i64 1, .int .i64 1, .string ⟨#[]⟩, .int .i64 0] 33)).alloc (.cells #[.int .i64 11, .string ⟨#[]⟩, .string ⟨#[]⟩, .slice (some ⟨w5.heap.size, 0, none⟩) 1 1, .slice none 0 0, .int .i64 0, .int .i64 (a.length : Int), .int .i64 (a.length : Int), .int .i64 0] 31)) (.slice A1 a.length c1) a) := HA.out _ (balloc (balloc HQ5.out _) _)
    have HS6 : Hid (w5.heap.size + 1 ≤ ((w5.alloc (.cells #[.int .i64 1, .int .i64 1, .string ⟨#[]⟩, .int .i64 0] 33)).alloc (.cells #[.int .i64 11, .string ⟨#[]⟩, .string ⟨#[]⟩, .slice (some ⟨w5.heap.size, 0, none⟩) 1 1, .slice none 0 0, .int .i64 0, .int .i64 (a.length : Int), .int .i64 (a.length : Int), .int .i64 0] 31)).heap.size) := by show _ ≤ _; rw [World.size_alloc, World.size_alloc]; omega
    have HNN := Lib.hid (node_one w5)
    go_upto_region 7 with (at_builtin; refine wpl_app rfl _ _ 24 rfl (w5.heap.size + 1) 31 i0 _ 9 120 Tryz.underlying24 hi0 hz0 hz1 hz2 rfl (by decide) (.slice (some ⟨w5.heap.size + 1, 0, none⟩) 1 1) 1 ([svI w5.heap.size a.length].flatMap Sv.cells) rfl HO6.out (.slice A1 a.length c1) a.length (a.flatMap Sv.cells) rfl HA6.out.1 HA6.out.ones HT4.out.1 HT4.out.2 HS6.out ?_; intro v6 w6 hown6 hb6; obtain ⟨A6, c6, rfl⟩ := own_shape hown6)
    have HB6 : Hid (Below (w5.heap.size + 1) (w5.alloc (.cells #[.int .i64 1, .int .i64 1, .string ⟨#[]⟩, .int .i64 0] 33)) w6) := by
      have h := al (w5.alloc (.cells #[.int .i64 1, .int .i64 1, .string ⟨#[]⟩, .int .i64 0] 33)) (.cells #[.int .i64 11, .string ⟨#[]⟩, .string ⟨#[]⟩, .slice (some ⟨w5.heap.size, 0, none⟩) 1 1, .slice none 0 0, .int .i64 0, .int .i64 (a.length : Int), .int .i64 (a.length : Int), .int .i64 0] 31)
      rw [World.size_alloc] at h
      exact h.trans hb6
    have HM6 : Hid (Below w5.heap.size w5 w6) := (al w5 _).trans (HB6.out.mono (Nat.le_succ _))
    have HQ6 : Hid (Below w1.heap.size w1 w6) := bt HQ5.out HM6.out
    have HA7 : Hid (Svs w6 (.slice A1 a.length c1) a) := HA.out _ HQ6.out
    have HS7 : Hid (w5.heap.size + 1 ≤ w6.heap.size) := Nat.le_trans HS6.out hb6.size
    have HO7 := Lib.hid hown6
    clear hown6 hb6 HO6 HA6 HS6 HT4
    go_upto_region 8 with (at_builtin; refine wpl_app rfl _ _ 24 rfl (w5.heap.size + 1) 31 i0 _ 9 120 Tryz.underlying24 hi0 hz0 hz1 hz2 rfl (by decide) (.slice A6 (1 + a.length) c6) (1 + a.length) ([svI w5.heap.size a.length].flatMap Sv.cells ++ a.flatMap Sv.cells) rfl HO7.out (.slice A1 a.length c1) a.length (a.flatMap Sv.cells) rfl HA7.out.1 HA7.out.ones HT5.out.1 HT5.out.2 HS7.out ?_; intro v7 w7 hown7 hb7; obtain ⟨A7, c7, rfl⟩ := own_shape hown7)
    have HB7 : Hid (Below (w5.heap.size + 1) (w5.alloc (.cells #[.int .i64 1, .int .i64 1, .string ⟨#[]⟩, .int .i64 0] 33)) w7) := HB6.out.trans hb7
    have HM7 : Hid (Below w5.heap.size w5 w7) := (al w5 _).trans (HB7.out.mono (Nat.le_succ _))
    have HQ7 : Hid (Below w1.heap.size w1 w7) := bt HQ5.out HM7.out
    rw [← List.flatMap_append, ← List.flatMap_append] at hown7
    have HSW : Hid (Svs w7 (.slice A7 (1 + a.length + a.length) c7) ([svI w5.heap.size a.length] ++ a ++ a)) := svs_own (by rw [List.length_append, List.length_append]; rfl) hown7 (fun x hx => by
      rw [List.append_assoc] at hx
      rcases List.mem_append.1 hx with h | h
      · simp only [List.mem_cons, List.not_mem_nil, or_false] at h
        subst h
        refine ⟨SlN.below HNN.out (by rw [World.size_alloc]; exact HB7.out), Sl.nil _ _ _⟩
      · have h2 : x ∈ a := (List.mem_append.1 h).elim id id
        exact (HA.out _ HQ7.out).2 x h2)
    clear hown7 HT5 HO7
    generalize 1 + a.length + a.length = nI at HSW ⊢
    generalize 1 + a.length = nL at HSV ⊢
    have HX : Hid (∀ x, Below w7.heap.size w7 x → Svs x (.slice A5 nL c5) ([svL (1 + y) a.length] ++ a)) := fun x hx => (HSV.out.below HM7.out).below hx
    have HY : Hid (∀ x, Below w7.heap.size w7 x → Svs x (.slice A7 (nI) c7) ([svI w5.heap.size a.length] ++ a ++ a)) := fun x hx => HSW.out.below hx
    have HEX : Hid (∀ x, Below w7.heap.size w7 x → Env x) := fun x hx => HEN.out _ (bt HQ7.out hx)
    have hw := wraps HRA.out (n := 1 + y) (by omega) (by omega)
    rw [List.length_map] at hw
    have eL : ([svL (1 + y) a.length] ++ a).map (·.s) = wrapL (1 + y) a.length :: a.map (·.s) := rfl
    have eI : ([svI w5.heap.size a.length] ++ a ++ a).map (·.s) = wrapI a.length :: (a.map (·.s) ++ a.map (·.s)) := by rw [List.append_assoc, List.map_append, List.map_append]; rfl
    rw [← eL, ← eI] at hw
    obtain ⟨j1, j2, j3, j4⟩ := hw
    have bL : ∀ x ∈ [svL (1 + y) a.length] ++ a, SvB x.s := fun x hx => by
      rcases List.mem_append.1 hx with h | h
      · simp only [List.mem_cons, List.not_mem_nil, or_false] at h
        subst h
        exact fits_B (fits_wrapL (by omega) (by omega) _)
      · exact han x h
    have bI : ∀ x ∈ [svI w5.heap.size a.length] ++ a ++ a, SvB x.s := fun x hx => by
      rw [List.append_assoc] at hx
      rcases List.mem_append.1 hx with h | h
      · simp only [List.mem_cons, List.not_mem_nil, or_false] at h
        subst h
        exact fits_B (fits_wrapI _)
      · exact han x ((List.mem_append.1 h).elim id id)
    have lL : ([svL (1 + y) a.length] ++ a).length ≤ 100000 := by rw [List.length_append]; simp only [List.length_cons, List.length_nil]; omega
    have lI : ([svI w5.heap.size a.length] ++ a ++ a).length ≤ 100000 := by rw [List.length_append, List.length_append]; simp only [List.length_cons, List.length_nil]; omega
    have K7 : Hid (∀ x, Below w7.heap.size w7 x → Calls Tryz.prog 16 #[.slice A5 nL c5] x fun e w' => e = .returned (.bool (rightS (([svL (1 + y) a.length] ++ a).map (·.s)))) ∧ Below x.heap.size x w') := fun x hx => RightS_c _ lL bL _ x (HX.out x hx) (HEX.out x hx)
    have K8 : Hid (∀ x, Below w7.heap.size w7 x → Calls Tryz.prog 16 #[.slice A7 (nI) c7] x fun e w' => e = .returned (.bool (rightS (([svI w5.heap.size a.length] ++ a ++ a).map (·.s)))) ∧ Below x.heap.size x w') := fun x hx => RightS_c _ lI bI _ x (HY.out x hx) (HEX.out x hx)
    have K9 : Hid (∀ x, Below w7.heap.size w7 x → Calls Tryz.prog 20 #[.slice A5 nL c5] x fun e w' => e = .returned (.int .i64 (depthS (([svL (1 + y) a.length] ++ a).map (·.s)))) ∧ Below x.heap.size x w') := fun x hx => DepthS_c _ lL bL _ x (HX.out x hx) (HEX.out x hx)
    have KA : Hid (∀ x, Below w7.heap.size w7 x → Calls Tryz.prog 20 #[.slice A7 (nI) c7] x fun e w' => e = .returned (.int .i64 (depthS (([svI w5.heap.size a.length] ++ a ++ a).map (·.s)))) ∧ Below x.heap.size x w') := fun x hx => DepthS_c _ lI bI _ x (HY.out x hx) (HEX.out x hx)
    have J1 := Lib.hid j1
    have J2 := Lib.hid j2
    have J3 := Lib.hid j3
    have J4 := Lib.hid j4
    clear hb7 HA7 HS7 HB6 HB7 HM6 HQ6 j1 j2 j3 j4 eL eI bL bI lL lI han HNN HX HY HSV HSW hyw y0 y1 hy
    generalize depthS (a.map (·.s)) = d at J1 J2 J3 J4 hd0 ⊢
    generalize rightS (([svL (1 + y) a.length] ++ a).map (·.s)) = r1 at J1 J3 K7
    generalize rightS (([svI w5.heap.size a.length] ++ a ++ a).map (·.s)) = r2 at J2 J4 K8
    generalize depthS (([svL (1 + y) a.length] ++ a).map (·.s)) = d1 at J3 K9
    generalize depthS (([svI w5.heap.size a.length] ++ a ++ a).map (·.s)) = d2 at J4 KA
    obtain ⟨d0, d12⟩ := hd0
    have hdw : IntKind.i64.wrap (d + 1) = d + 1 := IntWalk.i64_in _ (by omega)
    have hub : (a.length : Int) ≤ 40 := by omega
    by_cases hd : d < 12
    · by_cases h4 : a.length < 40
      · have h4' : (a.length : Int) < 40 := by omega
        by_cases h2 : 2 * a.length < 40
        · have h2' : 2 * (a.length : Int) < 40 := by omega
          have E1 : r1 = true := by
            rw [J1.out]
            simp
            omega
          have E2 : r2 = true := by
            rw [J2.out]
            simp
            omega
          rw [E1] at K7
          rw [E2] at K8
          have E3 : d1 = d + 1 := J3.out E1
          rw [E3] at K9
          have E4 : d2 = d + 1 := J4.out E2
          rw [E4] at KA
          clear J1 J2 J3 J4 E1 E2 E3 E4 ha40 ha
          go_wp2_with (first
            | (go_at_call_of 16 (Value.slice A5 nL c5); refine (K7.out _ (Below.refl _ _)).mono ?_; rintro e x1 ⟨rfl, r1⟩)
            | (go_at_call_of 16 (Value.slice A7 (nI) c7); refine (K8.out _ r1).mono ?_; rintro e x2 ⟨rfl, p2⟩; have r2 := bt r1 p2; clear p2 r1)
            | (go_at_call_of 20 (Value.slice A5 nL c5); refine (K9.out _ r2).mono ?_; rintro e x3 ⟨rfl, p3⟩; have r3 := bt r2 p3; clear p3 r2)
            | (go_at_call_of 20 (Value.slice A7 (nI) c7); refine (KA.out _ r3).mono ?_; rintro e x4 ⟨rfl, p4⟩; have r4 := bt r3 p4; clear p4 r3)
            | (go_at_call 14; refine (fixed_c _ (HEX.out _ r4)).mono ?_; rintro e w16 ⟨rfl, p16⟩))
          go_ret
          exact ⟨rfl, bt HB1.out (bt HQ7.out (bt r4 p16))⟩
        · have h2' : ¬ (2 * (a.length : Int) < 40) := by omega
          have E1 : r1 = true := by
            rw [J1.out]
            simp
            omega
          have E2 : r2 = false := by
            rw [J2.out]
            simp
            omega
          rw [E1] at K7
          rw [E2] at K8
          have E3 : d1 = d + 1 := J3.out E1
          rw [E3] at K9
          clear J1 J2 J3 J4 E1 E2 E3 ha40 ha
          go_wp2_with (first
            | (go_at_call_of 16 (Value.slice A5 nL c5); refine (K7.out _ (Below.refl _ _)).mono ?_; rintro e x1 ⟨rfl, r1⟩)
            | (go_at_call_of 16 (Value.slice A7 (nI) c7); refine (K8.out _ r1).mono ?_; rintro e x2 ⟨rfl, p2⟩; have r2 := bt r1 p2; clear p2 r1)
            | (go_at_call_of 20 (Value.slice A5 nL c5); refine (K9.out _ r2).mono ?_; rintro e x3 ⟨rfl, p3⟩; have r3 := bt r2 p3; clear p3 r2)
            | (go_at_call 14; refine (fixed_c _ (HEX.out _ r3)).mono ?_; rintro e w16 ⟨rfl, p16⟩))
          go_ret
          exact ⟨rfl, bt HB1.out (bt HQ7.out (bt r3 p16))⟩
      · have h4' : ¬ ((a.length : Int) < 40) := by omega
        have h2' : ¬ (2 * (a.length : Int) < 40) := by omega
        have E1 : r1 = false := by
          rw [J1.out]
          simp
          omega
        have E2 : r2 = false := by
          rw [J2.out]
          simp
          omega
        rw [E1] at K7
        rw [E2] at K8
        clear J1 J2 J3 J4 E1 E2 ha40 ha
        go_wp2_with (first
          | (go_at_call_of 16 (Value.slice A5 nL c5); refine (K7.out _ (Below.refl _ _)).mono ?_; rintro e x1 ⟨rfl, r1⟩)
          | (go_at_call_of 16 (Value.slice A7 (nI) c7); refine (K8.out _ r1).mono ?_; rintro e x2 ⟨rfl, p2⟩; have r2 := bt r1 p2; clear p2 r1)
          | (go_at_call 14; refine (fixed_c _ (HEX.out _ r2)).mono ?_; rintro e w16 ⟨rfl, p16⟩))
        go_ret
        exact ⟨rfl, bt HB1.out (bt HQ7.out (bt r2 p16))⟩
    · have hd' : ¬ (d < 12) := hd
      have E1 : r1 = false := by
        rw [J1.out]
        simp
        omega
      have E2 : r2 = false := by
        rw [J2.out]
        simp
        omega
      rw [E1] at K7
      rw [E2] at K8
      clear J1 J2 J3 J4 E1 E2 ha40 ha
      go_wp2_with (first
        | (go_at_call_of 16 (Value.slice A5 nL c5); refine (K7.out _ (Below.refl _ _)).mono ?_; rintro e x1 ⟨rfl, r1⟩)
        | (go_at_call_of 16 (Value.slice A7 (nI) c7); refine (K8.out _ r1).mono ?_; rintro e x2 ⟨rfl, p2⟩; have r2 := bt r1 p2; clear p2 r1)
        | (go_at_call 14; refine (fixed_c _ (HEX.out _ r2)).mono ?_; rintro e w16 ⟨rfl, p16⟩))
      go_ret
      exact ⟨rfl, bt HB1.out (bt HQ7.out (bt r2 p16))⟩
end Go.Proofs.YtaoeaaebafcegaaGreatDoor

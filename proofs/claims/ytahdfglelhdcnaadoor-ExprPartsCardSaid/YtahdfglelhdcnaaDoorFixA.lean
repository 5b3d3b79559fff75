/- The fixed calls' answers: plain. -/
import Derived.Test.YtahdfglelhdcnaaDoorShwPlain
import Derived.Test.YtahdfglelhdcnaaDoorLwA
import Derived.Test.YtahdfglelhdcnaaDoorNamA
namespace Go.Proofs.YtahdfglelhdcnaaDoor
open Go Go.RowKit
set_option linter.unusedVariables false
def fx1 : List UInt8 := [97, 32, 43, 32, 98, 32, 42, 32, 50, 32, 59]
def fx2 : List UInt8 := [45, 97, 32, 42, 32, 98]
def fx3 : List UInt8 := [40, 97, 32, 43, 32, 59]
def fx4 : List UInt8 := [97, 32, 60]
def fx5 : List UInt8 := [97, 32, 60, 32, 98, 32, 60, 32, 99]
def fxN1 : List Nod := [⟨5, 0, [], 2⟩, ⟨2, 0, [97], 0⟩, ⟨7, 0, [], 6⟩, ⟨2, 0, [98], 4⟩, ⟨1, 2, [], 8⟩]
def fxN2 : List Nod := [⟨7, 0, [], 3⟩, ⟨3, 0, [], 0⟩, ⟨2, 0, [97], 1⟩, ⟨2, 0, [98], 5⟩]
def fxE1 : Ex := .two ⟨5, 0, [], 2⟩ (.leaf ⟨2, 0, [97], 0⟩) (.two ⟨7, 0, [], 6⟩ (.leaf ⟨2, 0, [98], 4⟩) (.leaf ⟨1, 2, [], 8⟩))
def fxE2 : Ex := .two ⟨7, 0, [], 3⟩ (.one ⟨3, 0, [], 0⟩ (.leaf ⟨2, 0, [97], 1⟩)) (.leaf ⟨2, 0, [98], 5⟩)
set_option maxRecDepth 100000 in
theorem fx1_p : parE (scanE fx1).1 0 = (fxN1, 5, 0, 0) := by kernel_rfl
set_option maxRecDepth 100000 in
theorem fx2_p : parE (scanE fx2).1 0 = (fxN2, 4, 0, 0) := by kernel_rfl
set_option maxRecDepth 100000 in
theorem fx3_p : parE (scanE fx3).1 0 = ([], 0, 5, 5) := by kernel_rfl
set_option maxRecDepth 100000 in
theorem fx4_p : parE (scanE fx4).1 0 = ([], 0, 6, 3) := by kernel_rfl
set_option maxRecDepth 100000 in
theorem fx5_p : parE (scanE fx5).1 0 = ([⟨12, 0, [], 2⟩, ⟨2, 0, [97], 0⟩, ⟨2, 0, [98], 4⟩], 3, 0, 0) := by kernel_rfl
theorem fx6_p : parE [] (-1) = ([], 0, 1, 0) := by kernel_rfl
theorem fx_ok1 : fxE1.ok := ⟨rfl, rfl, rfl, rfl, rfl⟩
theorem fx_ok2 : fxE2.ok := ⟨rfl, ⟨rfl, rfl⟩, rfl⟩
theorem fx_r1 : rightE fxN1 = true := by
  have h : fxN1 = fxE1.flat := rfl
  rw [h, rightE_flat _ fx_ok1]; decide +kernel
theorem fx_r2 : rightE fxN2 = true := by
  have h : fxN2 = fxE2.flat := rfl
  rw [h, rightE_flat _ fx_ok2]; decide +kernel
theorem fx_s1 : showE fxN1 = [97, 32, 43, 32, 40, 98, 32, 42, 32, 50, 41] := by
  unfold showE
  rw [if_pos fx_r1, show fxN1 = fxE1.flat from rfl, treeE_flat _ fx_ok1]
  show fxE1.show = _
  simp [fxE1, Ex.show, Ex.brk, Lib.itoa, Lib.decDigits, sg, sgnL]
theorem fx_s2 : showE fxN2 = [45, 97, 32, 42, 32, 98] := by
  unfold showE
  rw [if_pos fx_r2, show fxN2 = fxE2.flat from rfl, treeE_flat _ fx_ok2]
  show fxE2.show = _
  simp [fxE2, Ex.show, Ex.brk, sg, sgnL]
theorem fx_d1 : depthE fxN1 = 3 := by
  unfold depthE
  rw [if_pos fx_r1, show fxN1 = fxE1.flat from rfl, treeE_flat _ fx_ok1]
  rfl
theorem fx_rt : rightE (fxN1.drop 1) = false := rightE_end (by decide +kernel)
theorem fx_e2 : endE fxN1 2 = 5 := by decide +kernel
theorem fx_e5 : endE fxN1 5 = -1 := by decide +kernel
theorem fx_n1 : namesE fxN1 = [[97], [98]] := by
  unfold namesE
  rw [if_pos fx_r1]; kernel_rfl
theorem fx_m1 : sameE true fxN1 fxN1 = true := by kernel_rfl
theorem fx_m2 : sameE false fxN1 fxN1 = true := by kernel_rfl
theorem fx_m3 : sameE false fxN1 fxN2 = false := by kernel_rfl
end Go.Proofs.YtahdfglelhdcnaaDoor
/- The fixed calls: the statements' walk. -/
namespace Go.Proofs.YtahdfglelhdcnaaDoor
open Go Go.RowKit
set_option linter.unusedVariables false
theorem nods_sub {w : World} {b off c : Nat} {l : List Nod} (h : Nods w (.slice (some ⟨b, off, none⟩) l.length c) l) (i j : Nat) (hi : i ≤ j) (hj : j ≤ l.length) :
    Nods w (.slice (some ⟨b, off + i * 4, none⟩) (j - i) (c - i)) ((l.drop i).take (j - i)) := by
  obtain ⟨h1, A, c', hv, hc, hf⟩ := h
  cases hv
  have hlen : ((l.drop i).take (j - i)).length = j - i := by simp only [List.length_take, List.length_drop]; omega
  show Sl _ _ _ 4 ((l.drop i).take (j - i)).length _
  rw [hlen]
  refine ⟨by rw [flat_length Nod.cells 4 Nod.cells_len, hlen], _, _, rfl, by omega, fun h0 => ?_⟩
  obtain ⟨b', off', hA, hlt, hcell⟩ := hf (by omega)
  cases hA
  refine ⟨b, off + i * 4, rfl, hlt, fun k u hk => ?_⟩
  have hkl : k < (((l.drop i).take (j - i)).flatMap Nod.cells).length := (List.getElem?_eq_some_iff.1 hk).1
  have hsp : l.flatMap Nod.cells = (l.take i).flatMap Nod.cells ++ (((l.drop i).take (j - i)).flatMap Nod.cells ++ ((l.drop i).drop (j - i)).flatMap Nod.cells) := by
    rw [← List.flatMap_append, ← List.flatMap_append, List.take_append_drop, List.take_append_drop]
  have hpl : ((l.take i).flatMap Nod.cells).length = i * 4 := by rw [flat_length Nod.cells 4 Nod.cells_len, List.length_take]; omega
  have := hcell (i * 4 + k) u (by
    rw [hsp, List.getElem?_append_right (by omega), hpl, show i * 4 + k - i * 4 = k by omega, List.getElem?_append_left hkl]
    exact hk)
  rw [← Nat.add_assoc] at this
  exact this
theorem scan_use (l : List UInt8) (h : l.length ≤ 100000) : (scanE l).1.length ≤ 100000 ∧ ∀ t ∈ (scanE l).1, t.text.length ≤ 1000000 :=
  ⟨Nat.le_trans (scanE_facts l).1 h, fun t ht => by have := scanE_text l t ht; omega⟩
/-- a text's expression, as the statements ask for it -/
theorem parse_text (l : List UInt8) (h : l.length ≤ 100000) (s : ByteArray) (hs : s = str l) (w : World) (hE : Env w) (v : Value) (hv : Toks w v (scanE s.data.toList).1) (i : Int) (F : List Nod) (n : Nat) (tt er pl : Int) (hF : F.length = n) (hR : parE (scanE l).1 i = (F, tt, er, pl)) :
    Calls Tryd.prog 13 #[v, .int .i64 i] w fun e w' => ∃ A c, e = .returned (.tuple #[.slice A n c, .int .i64 tt, .int .i64 er, .int .i64 pl]) ∧ Nods w' (.slice A n c) F ∧ Below w.heap.size w w' := by
  subst hs hF
  rw [str_data] at hv
  obtain ⟨h1, h2⟩ := scan_use l h
  refine (Parse_c (scanE l).1 h1 h2 v i w hv hE).mono ?_
  rintro e w' ⟨V, rfl, hn, hb⟩
  rw [hR] at hn ⊢
  obtain ⟨A, c, rfl, hc⟩ := hn.shape
  exact ⟨A, c, rfl, hn, hb⟩
theorem parse_none (w : World) (hE : Env w) :
    Calls Tryd.prog 13 #[.slice none 0 0, .int .i64 (-1)] w fun e w' => ∃ V, e = .returned (.tuple #[V, .int .i64 0, .int .i64 1, .int .i64 0]) ∧ Below w.heap.size w w' := by
  refine (Parse_c [] (by decide) (by simp) (.slice none 0 0) (-1) w (Sl.nil _ _ _) hE).mono ?_
  rintro e w' ⟨V, rfl, hn, hb⟩
  exact ⟨V, rfl, hb⟩
theorem want_sl (w : World) : Nods (w.alloc (.cells #[.int .i64 5, .int .i64 0, .string ⟨#[]⟩, .int .i64 2, .int .i64 2, .int .i64 0, .string ⟨#[97]⟩, .int .i64 0, .int .i64 7, .int .i64 0, .string ⟨#[]⟩, .int .i64 6, .int .i64 2, .int .i64 0, .string ⟨#[98]⟩, .int .i64 4, .int .i64 1, .int .i64 2, .string ⟨#[]⟩, .int .i64 8] 30)) (.slice (some ⟨w.heap.size, 0, none⟩) 5 5) fxN1 := by
  have h : fxN1.flatMap Nod.cells = [.int .i64 5, .int .i64 0, .string ⟨#[]⟩, .int .i64 2, .int .i64 2, .int .i64 0, .string ⟨#[97]⟩, .int .i64 0, .int .i64 7, .int .i64 0, .string ⟨#[]⟩, .int .i64 6, .int .i64 2, .int .i64 0, .string ⟨#[98]⟩, .int .i64 4, .int .i64 1, .int .i64 2, .string ⟨#[]⟩, .int .i64 8] := by kernel_rfl
  show SlN _ _ 4 5 (fxN1.flatMap Nod.cells)
  rw [h]
  exact sl_lit w _ 30 4 5 5 rfl (Nat.le_refl _)
theorem names_small : (∀ x ∈ fxN1, x.name.length ≤ 1000000) ∧ (∀ x ∈ fxN2, x.name.length ≤ 1000000) ∧ (∀ x ∈ fxN1.drop 1, x.name.length ≤ 1000000) := by decide
theorem fxc_same (w : World) (v u : Value) (hv : Nods w v fxN1) (hu : Nods w u fxN1) :
    Calls Tryd.prog 14 #[v, u, .bool true] w fun e w' => e = .returned (.bool true) ∧ Below w.heap.size w w' := by
  have := rsame_c fxN1 fxN1 (by decide) (by decide) v u true w hv hu
  rw [fx_m1] at this
  exact this
theorem fxc_show1 (w : World) (v : Value) (hv : Nods w v fxN1) (hE : Env w) :
    Calls Tryd.prog 19 #[v] w fun e w' => e = .returned (.string ⟨#[97, 32, 43, 32, 40, 98, 32, 42, 32, 50, 41]⟩) ∧ Below w.heap.size w w' := by
  have := Show_c fxN1 (by decide) names_small.1 v w hv hE
  rw [fx_s1] at this
  exact this
theorem fxc_show2 (w : World) (v : Value) (hv : Nods w v fxN2) (hE : Env w) :
    Calls Tryd.prog 19 #[v] w fun e w' => e = .returned (.string ⟨#[45, 97, 32, 42, 32, 98]⟩) ∧ Below w.heap.size w w' := by
  have := Show_c fxN2 (by decide) names_small.2.1 v w hv hE
  rw [fx_s2] at this
  exact this
theorem fxc_r1 (w : World) (v : Value) (hv : Nods w v fxN1) (hE : Env w) :
    Calls Tryd.prog 17 #[v] w fun e w' => e = .returned (.bool true) ∧ Below w.heap.size w w' := by
  have := Right_c fxN1 (by decide) names_small.1 v w hv hE
  rw [fx_r1] at this
  exact this
theorem fxc_rt (w : World) (v : Value) (hv : Nods w v (fxN1.drop 1)) (hE : Env w) :
    Calls Tryd.prog 17 #[v] w fun e w' => e = .returned (.bool false) ∧ Below w.heap.size w w' := by
  have := Right_c (fxN1.drop 1) (by decide) names_small.2.2 v w hv hE
  rw [fx_rt] at this
  exact this
theorem fxc_d1 (w : World) (v : Value) (hv : Nods w v fxN1) (hE : Env w) :
    Calls Tryd.prog 21 #[v] w fun e w' => e = .returned (.int .i64 3) ∧ Below w.heap.size w w' := by
  have := Depth_c fxN1 (by decide) names_small.1 v w hv hE
  rw [fx_d1] at this
  exact this
theorem fxc_e2 (w : World) (v : Value) (hv : Nods w v fxN1) :
    Calls Tryd.prog 26 #[v, .int .i64 2] w fun e w' => e = .returned (.int .i64 5) ∧ w = w' := by
  have := end_c fxN1 v w hv (by decide) 2
  rw [fx_e2] at this
  exact this
theorem fxc_e5 (w : World) (v : Value) (hv : Nods w v fxN1) :
    Calls Tryd.prog 26 #[v, .int .i64 5] w fun e w' => e = .returned (.int .i64 (-1)) ∧ w = w' := by
  have := end_c fxN1 v w hv (by decide) 5
  rw [fx_e5] at this
  exact this
theorem fxc_names (w : World) (v : Value) (hv : Nods w v fxN1) (hE : Env w) :
    Calls Tryd.prog 24 #[v] w fun e w' => ∃ A c, e = .returned (.slice A 2 c) ∧ Strs w' (.slice A 2 c) [[97], [98]] ∧ Below w.heap.size w w' := by
  refine (Names_c fxN1 (by decide) names_small.1 v w hv hE).mono ?_
  rintro e w' ⟨V, rfl, hs, hb⟩
  rw [fx_n1] at hs
  obtain ⟨A, c, rfl, hc⟩ := Strs.shape hs
  exact ⟨A, c, rfl, hs, hb⟩
theorem want_st (w : World) : Strs (w.alloc (.cells #[.string ⟨#[97]⟩, .string ⟨#[98]⟩] 9)) (.slice (some ⟨w.heap.size, 0, none⟩) 2 2) [[97], [98]] := sl_lit w [.string ⟨#[97]⟩, .string ⟨#[98]⟩] 9 1 2 2 rfl (Nat.le_refl _)
theorem fxc_texts (w : World) (v u : Value) (hv : Strs w v [[97], [98]]) (hu : Strs w u [[97], [98]]) :
    Calls Tryd.prog 23 #[v, u] w fun e w' => e = .returned (.bool true) ∧ Below w.heap.size w w' := by
  have := texts_c [[97], [98]] [[97], [98]] (by decide) (by decide) v u w hv hu
  rw [show eqE [[97], [98]] [[97], [98]] = true from rfl] at this
  exact this
theorem fxc_s1 (w : World) (v u : Value) (hv : Nods w v fxN1) (hu : Nods w u fxN1) :
    Calls Tryd.prog 28 #[v, u] w fun e w' => e = .returned (.bool true) ∧ Below w.heap.size w w' := by
  have := Same_c fxN1 fxN1 (by decide) (by decide) v u w hv hu
  rw [fx_m2] at this
  exact this
theorem fxc_s2 (w : World) (v u : Value) (hv : Nods w v fxN1) (hu : Nods w u fxN2) :
    Calls Tryd.prog 28 #[v, u] w fun e w' => e = .returned (.bool false) ∧ Below w.heap.size w w' := by
  have := Same_c fxN1 fxN2 (by decide) (by decide) v u w hv hu
  rw [fx_m3] at this
  exact this
set_option maxRecDepth 100000 in
set_option maxHeartbeats 8000000 in
theorem fixed_c (w : World) (hE : Env w) : Calls Tryd.prog 15 #[] w fun e w' => e = .returned (.bool true) ∧ Below w.heap.size w w' := by
  have HT : Hid (∀ (s : ByteArray) u, s.size ≤ 1000 → Calls Tryd.prog 11 #[.string s] u fun e w' => ∃ v, e = .returned v ∧ Toks w' v (scanE s.data.toList).1 ∧ Below u.heap.size u w') := fun s u hs => tokens_c s (by omega) u
  have HE := Lib.hid hE
  clear hE
  go_enter Tryd.func15, Tryd.ntmps15
  go_upto_region 2 with (first
    | (go_at_call 11; refine (HT.out _ _ (by decide)).mono ?_; rintro e t1 ⟨vt1, rfl, hvt1, hbt1⟩; have hbu1 : Below w.heap.size w t1 := hbt1; have hvu1 := hvt1; clear hvt1)
    | (go_at_call 13; refine (parse_text fx1 (by decide) _ rfl t1 (HE.out.below hbu1) _ hvu1 0 fxN1 5 5 0 0 rfl fx1_p).mono ?_; rintro e p1 ⟨A1, c1, rfl, hn1, hbp1⟩))
  have HB1 := Lib.hid (bt hbu1 hbp1)
  obtain ⟨b1, o1, k1, hE1, hk1, hl1, hat1⟩ := Nods.at_ (l := fxN1) hn1 (by decide)
  cases hE1
  clear hat1
  clear hbu1 hbp1 hbt1 hvu1 
  go_upto_region 3 with (first
    | (go_at_call 11; refine (HT.out _ _ (by decide)).mono ?_; rintro e t2 ⟨vt2, rfl, hvt2, hbt2⟩; have hbu2 : Below w.heap.size w t2 := bt HB1.out hbt2; have hvu2 := hvt2; clear hvt2)
    | (go_at_call 13; refine (parse_text fx2 (by decide) _ rfl t2 (HE.out.below hbu2) _ hvu2 0 fxN2 4 4 0 0 rfl fx2_p).mono ?_; rintro e p2 ⟨A2, c2, rfl, hn2, hbp2⟩))
  have HB2 := Lib.hid (bt hbu2 hbp2)
  have HM := Lib.hid hn2
  have HQ := Lib.hid (bt hbt2 hbp2)
  have HL := Lib.hid (SlN.below hn1 HQ.out)
  clear hbu2 hbp2 hbt2 hvu2 hn2
  clear hn1 HQ
  go_upto_region 4 with (first
    | (go_at_call 11; refine (HT.out _ _ (by decide)).mono ?_; rintro e t3 ⟨vt3, rfl, hvt3, hbt3⟩; have hbu3 : Below w.heap.size w t3 := bt HB2.out hbt3; have hvu3 := hvt3; clear hvt3)
    | (go_at_call 13; refine (parse_text fx3 (by decide) _ rfl t3 (HE.out.below hbu3) _ hvu3 0 [] 0 0 5 5 rfl fx3_p).mono ?_; rintro e p3 ⟨A3, c3, rfl, hn3, hbp3⟩))
  have HB3 := Lib.hid (bt hbu3 hbp3)
  have HQ3 := Lib.hid (bt hbt3 hbp3)
  clear hbu3 hbp3 hbt3 hvu3 hn3
  go_upto_region 5 with (first
    | (go_at_call 11; refine (HT.out _ _ (by decide)).mono ?_; rintro e t4 ⟨vt4, rfl, hvt4, hbt4⟩; have hbu4 : Below w.heap.size w t4 := bt HB3.out hbt4; have hvu4 := hvt4; clear hvt4)
    | (go_at_call 13; refine (parse_text fx4 (by decide) _ rfl t4 (HE.out.below hbu4) _ hvu4 0 [] 0 0 6 3 rfl fx4_p).mono ?_; rintro e p4 ⟨A4, c4, rfl, hn4, hbp4⟩))
  have HB4 := Lib.hid (bt hbu4 hbp4)
  have HQ4 := Lib.hid (bt hbt4 hbp4)
  clear hbu4 hbp4 hbt4 hvu4 hn4
  go_upto_region 6 with (first
    | (go_at_call 11; refine (HT.out _ _ (by decide)).mono ?_; rintro e t5 ⟨vt5, rfl, hvt5, hbt5⟩; have hbu5 : Below w.heap.size w t5 := bt HB4.out hbt5; have hvu5 := hvt5; clear hvt5)
    | (go_at_call 13; refine (parse_text fx5 (by decide) _ rfl t5 (HE.out.below hbu5) _ hvu5 0 _ 3 3 0 0 rfl fx5_p).mono ?_; rintro e p5 ⟨A5, c5, rfl, hn5, hbp5⟩))
  have HB5 := Lib.hid (bt hbu5 hbp5)
  have HQ5 := Lib.hid (bt hbt5 hbp5)
  clear hbu5 hbp5 hbt5 hvu5 hn5
  go_cut [23] from 21 to 66 (fun s wx => s = .int .i64 1 ∧ Below p5.heap.size p5 wx)
  case first =>
    go_wp2_with (first
      | (go_at_call 13; refine (parse_none p5 (HE.out.below HB5.out)).mono ?_; rintro e p6 ⟨V6, rfl, hbp6⟩))
    go_meet
    exact ⟨rfl, hbp6⟩
  case rest =>
    obtain ⟨rfl, hbp6⟩ := hcut
    rename World => p6
    have HB6 := Lib.hid (bt HB5.out hbp6)
    have hq6 : Below p2.heap.size p2 p6 := bt (bt (bt HQ3.out HQ4.out) HQ5.out) hbp6
    have HLU : Hid (∀ u, Below p6.heap.size p6 u → Nods u (.slice (some ⟨b1, o1, none⟩) 5 c1) fxN1) := fun u hu => SlN.below HL.out (bt hq6 hu)
    have HMU : Hid (∀ u, Below p6.heap.size p6 u → Nods u (.slice A2 4 c2) fxN2) := fun u hu => SlN.below HM.out (bt hq6 hu)
    have HEU : Hid (∀ u, Below p6.heap.size p6 u → Env u) := fun u hu => HE.out.below (bt HB6.out hu)
    have HTL : Hid (∀ u, Below p6.heap.size p6 u → Nods u (.slice (some ⟨b1, o1 + 4, none⟩) 4 (c1 - 1)) (fxN1.drop 1)) := fun u hu => nods_sub (l := fxN1) (HLU.out u hu) 1 5 (by decide) (by decide)
    have HWA : Hid (Nods (p6.alloc (.cells #[.int .i64 5, .int .i64 0, .string ⟨#[]⟩, .int .i64 2, .int .i64 2, .int .i64 0, .string ⟨#[97]⟩, .int .i64 0, .int .i64 7, .int .i64 0, .string ⟨#[]⟩, .int .i64 6, .int .i64 2, .int .i64 0, .string ⟨#[98]⟩, .int .i64 4, .int .i64 1, .int .i64 2, .string ⟨#[]⟩, .int .i64 8] 30)) (.slice (some ⟨p6.heap.size, 0, none⟩) 5 5) fxN1) := want_sl p6
    have hk15 : 5 ≤ c1 := hk1
    have hk16 : ¬ (c1 = 1) := by omega
    clear hq6 hbp6 HL HM HQ3 HQ4 HQ5 hl1 hk1
    go_wp2_with (first
      | (go_at_call 14; refine (fxc_same _ _ _ (HLU.out _ (al _ _)) HWA.out).mono ?_; rintro e w8 ⟨rfl, hb8⟩; have h8 : Below p6.heap.size p6 w8 := bt (al _ _) hb8; have HW8 := Lib.hid (SlN.below HWA.out hb8); clear hb8)
      | (go_at_call_of 19 (Value.slice (some ⟨b1, o1, none⟩) 5 c1); refine (fxc_show1 _ _ (HLU.out _ h8) (HEU.out _ h8)).mono ?_; rintro e w9 ⟨rfl, hb9⟩; have h9 := bt h8 hb9; have HW9 := Lib.hid (SlN.below HW8.out hb9); clear hb9 HW8 h8)
      | (go_at_call_of 19 (Value.slice A2 4 c2); refine (fxc_show2 _ _ (HMU.out _ h9) (HEU.out _ h9)).mono ?_; rintro e w10 ⟨rfl, hb10⟩; have h10 := bt h9 hb10; have HW10 := Lib.hid (SlN.below HW9.out hb10); clear hb10 HW9 h9)
      | (go_at_call_of 17 (Value.slice (some ⟨b1, o1, none⟩) 5 c1); refine (fxc_r1 _ _ (HLU.out _ h10) (HEU.out _ h10)).mono ?_; rintro e w11 ⟨rfl, hb11⟩; have h11 := bt h10 hb11; have HW11 := Lib.hid (SlN.below HW10.out hb11); clear hb11 HW10 h10)
      | (go_at_call 17; refine (fxc_rt _ _ (HTL.out _ h11) (HEU.out _ h11)).mono ?_; rintro e w12 ⟨rfl, hb12⟩; have h12 := bt h11 hb12; have HW12 := Lib.hid (SlN.below HW11.out hb12); clear hb12 HW11 h11)
      | (go_at_call 21; refine (fxc_d1 _ _ (HLU.out _ h12) (HEU.out _ h12)).mono ?_; rintro e w13 ⟨rfl, hb13⟩; have h13 := bt h12 hb13; have HW13 := Lib.hid (SlN.below HW12.out hb13); clear hb13 HW12 h12)
      | (go_at_call_of 26 (Value.int .i64 2); refine (fxc_e2 _ _ (HLU.out _ h13)).mono ?_; rintro e w13b ⟨rfl, rfl⟩)
      | (go_at_call_of 26 (Value.int .i64 5); refine (fxc_e5 _ _ (HLU.out _ h13)).mono ?_; rintro e w13c ⟨rfl, rfl⟩)
      | (go_at_call 24; refine (fxc_names _ _ (HLU.out _ h13) (HEU.out _ h13)).mono ?_; rintro e w14 ⟨A14, c14, rfl, hst14, hb14⟩; have h14 := bt h13 hb14; have HW14 := Lib.hid (SlN.below HW13.out hb14); have HST := Lib.hid hst14; clear hst14 hb14 HW13 h13)
      | (go_at_call 23; refine (fxc_texts _ _ _ (SlN.below HST.out (al _ _)) (want_st _)).mono ?_; rintro e w15 ⟨rfl, hb15⟩; have h15 := bt (bt h14 (al _ _)) hb15; have HW15 := Lib.hid (SlN.below HW14.out (bt (al _ _) hb15)); clear hb15 HW14 h14 HST)
      | (go_at_call_of 28 (Value.slice (some ⟨p6.heap.size, 0, none⟩) 5 5); refine (fxc_s1 _ _ _ (HLU.out _ h15) HW15.out).mono ?_; rintro e w16 ⟨rfl, hb16⟩; have h16 := bt h15 hb16; clear hb16 HW15 h15)
      | (go_at_call_of 28 (Value.slice A2 4 c2); refine (fxc_s2 _ _ _ (HLU.out _ h16) (HMU.out _ h16)).mono ?_; rintro e w17 ⟨rfl, hb17⟩; have h17 := bt h16 hb17; clear hb17 h16))
    go_ret
    exact ⟨rfl, bt HB6.out h17⟩
end Go.Proofs.YtahdfglelhdcnaaDoor

/- The pick that a line may be: the reference's walk. -/
import Derived.Test.YtcgcndmlgfnjbaaGreatDoorSchK
import Derived.Test.YtcgcndmlgfnjbaaGreatDoorSchB
import Derived.Test.YtcgcndmlgfnjbaaGreatDoorWalkE
namespace Go.Proofs.YtcgcndmlgfnjbaaGreatDoor
open Go Go.RowKit
set_option linter.unusedVariables false
def RPickPost (p : Pk) (w : World) (e : Ending) (w' : World) : Prop := ∃ A c, e = .returned (.tuple #[pkV p (.slice A p.cut.length c), .bool (rightK p)]) ∧ Off (Old w.heap.size) w' (fun u => Zs u (.slice A p.cut.length c) p.cut) ∧ Below w.heap.size w w'
theorem word_is (x y : List UInt8) : ((str x).toList == y) = decide (x = y) := by
  rw [str_toList]
  by_cases h : x = y
  · subst h; simp
  · rw [decide_eq_false h, beq_eq_false_iff_ne]; exact h
theorem far4 {w : World} {n m : Nat} (h : ¬ (m = n)) {a b c d k t i v : Value} (hc : w.cell? ⟨m, 0, none⟩ = some k ∧ w.cell? ⟨m, 1, none⟩ = some t ∧ w.cell? ⟨m, 2, none⟩ = some i ∧ w.cell? ⟨m, 3, none⟩ = some v) :
    ((((w.setCell ⟨n, 0, none⟩ a).setCell ⟨n, 1, none⟩ b).setCell ⟨n, 2, none⟩ c).setCell ⟨n, 3, none⟩ d).cell? ⟨m, 0, none⟩ = some k ∧ ((((w.setCell ⟨n, 0, none⟩ a).setCell ⟨n, 1, none⟩ b).setCell ⟨n, 2, none⟩ c).setCell ⟨n, 3, none⟩ d).cell? ⟨m, 1, none⟩ = some t ∧
    ((((w.setCell ⟨n, 0, none⟩ a).setCell ⟨n, 1, none⟩ b).setCell ⟨n, 2, none⟩ c).setCell ⟨n, 3, none⟩ d).cell? ⟨m, 2, none⟩ = some i ∧ ((((w.setCell ⟨n, 0, none⟩ a).setCell ⟨n, 1, none⟩ b).setCell ⟨n, 2, none⟩ c).setCell ⟨n, 3, none⟩ d).cell? ⟨m, 3, none⟩ = some v := by
  refine ⟨?_, ?_, ?_, ?_⟩ <;> simp [World.cell?_setCell_other, hc]
theorem PkB_four {w : World} {b : Nat} {p : Pk} {v : Value} (h : PkB w b p v) (k t i : Int) (c : List Int) (u : Value) :
    PkB ((((w.setCell ⟨b, 0, none⟩ (.int .i64 k)).setCell ⟨b, 1, none⟩ (.int .i64 t)).setCell ⟨b, 2, none⟩ (.int .i64 i)).setCell ⟨b, 3, none⟩ u) b ⟨k, t, i, c⟩ u := by
  obtain ⟨h0, h1, h2, h3⟩ := set4_kept (a := .int .i64 k) (b := .int .i64 t) (c := .int .i64 i) (d := u) h.at_.kind h.at_.t h.at_.i h.at_.cut
  exact ⟨⟨h0, h1, h2, h3⟩, by simpa using h.f0, by simpa using h.f1, by simpa using h.f2, by simpa using h.f3⟩
def World.heapsize (w : World) : Nat := w.heap.size
set_option maxRecDepth 100000 in
set_option maxHeartbeats 8000000 in
theorem rpick_c (s : ByteArray) (hs : s.size ≤ 1000000) (w : World) :
    Calls Tryz.prog 83 #[.string s] w (RPickPost (pickR (splitK s.data.toList)) w) := by
  obtain ⟨i0, hi0, hz0, hz1, hz2⟩ := info_parts info_int
  have hsz : s.data.toList.length = s.size := by rw [Array.length_toList]; rfl
  obtain ⟨hle, hln⟩ := split_le s.data.toList
  have hne := splitK_ne s.data.toList
  have hSP := fun (u : World) => rwords_c s hs u
  generalize splitK s.data.toList = ws at hSP hle hln hne ⊢
  obtain ⟨x, r, rfl⟩ : ∃ x r, ws = x :: r := by
    cases ws with
    | nil => exact absurd rfl hne
    | cons x r => exact ⟨x, r, rfl⟩
  have HSP : Hid (∀ u : World, Calls Tryz.prog 98 #[.string s] u fun e w' => ∃ A c, e = .returned (.slice A (r.length + 1) c) ∧ Strs w' (.slice A (r.length + 1) c) (x :: r) ∧ Below u.heap.size u w') := fun u => hSP u
  rw [hsz] at hle hln
  clear hSP hsz
  go_enter Tryz.func83, Tryz.ntmps83
  go_upto_region 2 with (go_at_call 98; refine (HSP.out _).mono ?_; rintro e w0 ⟨A0, c0, rfl, hv0, hb0⟩)
  obtain ⟨b0, o0, k0, hE0, _, hbt0, hat0⟩ := Strs.at_ (l := x :: r) hv0 (by simp)
  cases hE0
  have hx0 := hat0 0 (by simp)
  rw [Nat.add_zero] at hx0
  have hx0 : w0.cell? ⟨b0, o0, none⟩ = some (.string (str x)) := hx0
  have HX0 := Lib.hid hx0
  have HAT := Lib.hid hat0
  have hnew := al w (.cells #[.int .i64 0, .int .i64 0, .int .i64 0, .slice none 0 0] 48)
  have HB0 : Hid (Below w.heap.size w w0) := bt hnew hb0
  have hlt : w.heap.size < (w.alloc (.cells #[.int .i64 0, .int .i64 0, .int .i64 0, .slice none 0 0] 48)).heap.size := by rw [World.size_alloc]; omega
  have HZ : Hid (PkB w0 w.heap.size zeroK (.slice none 0 0)) := (pkB_new w zeroK _).below hb0 hlt
  have HS0 : Hid (w.heap.size < w0.heap.size) := Nat.lt_of_lt_of_le hlt hb0.size
  have HLE : Hid (∀ y ∈ r, y.length ≤ 1000000) := fun y hy => by have := hle y (by simp [hy]); omega
  have hrl : r.length ≤ 1000000 := by simp only [List.length_cons] at hln; omega
  have HE0 := Lib.hid (own_empty w0 3 1 (by decide))
  clear hnew hlt hb0 hv0 hat0 hle hln hne HSP hx0
  go_wp2_with fail
  go_loopw [5, 6] (fun nums k wr => Below w0.heap.size w0 wr ∧ ∃ (j : Nat) (ns : List Int), j ≤ r.length ∧ k = .int .i64 (j + 1) ∧ (∃ A c, nums = .slice A j c) ∧ wr.ownsRow w0.heap.size 3 1 nums j (ns.flatMap zCell) ∧ ns.length = j ∧ numsK (r.take j) = some ns) (fun _ k _ => r.length + 1 - (intOf k).toNat)
  case atStart => exact ⟨al _ _, 0, [], Nat.zero_le _, rfl, ⟨_, 0, rfl⟩, HE0.out, rfl, rfl⟩
  case round =>
    obtain ⟨hb, j, ns, hj, rfl, ⟨A, cc, rfl⟩, hown, hnl, hns⟩ := hrel
    have HB := Lib.hid hb
    have HOWN := Lib.hid hown
    have HNS := Lib.hid hns
    have HNL := Lib.hid hnl
    have HSZ : Hid (w0.heap.size ≤ wr.heap.size) := hb.size
    have hj0 : (0 : Int) ≤ (j : Int) := Int.natCast_nonneg _
    by_cases hjl : j < r.length
    · have hjl2 : (j : Int) + 1 < (r.length : Int) + 1 := by omega
      have hx1 : wr.cell? ⟨b0, o0 + (j + 1), none⟩ = some (.string (str r[j])) := (hb.cell (p := ⟨_, _, none⟩) hbt0).trans (HAT.out (j + 1) (by simp; omega))
      have HX : Hid (numsK (r.take (j + 1)) = if (numE r[j]).2 = 0 then some (ns ++ [(numE r[j]).1]) else none) := by
        show _ = _
        rw [List.take_succ_eq_append_getElem hjl, nums_snoc, hns]
      have HPZ : Hid (Calls Tryz.prog 82 #[.string (str r[j])] wr fun e w' => e = .returned (.tuple #[.int .i64 (numE r[j]).1, .int .i64 (numE r[j]).2]) ∧ wr = w') := by
        have := rparse_c (str r[j]) wr (by rw [str_size]; have := HLE.out _ (List.getElem_mem hjl); omega)
        unfold NumPost at this
        rw [str_data] at this
        exact this
      have hDR : r = r.take (j + 1) ++ r.drop (j + 1) := (List.take_append_drop _ _).symm
      have HDR := Lib.hid hDR
      have HJ : Hid (j < r.length) := hjl
      generalize r[j] = y at hx1 HX HPZ
      generalize numE y = z at HX HPZ
      obtain ⟨z1, z2⟩ := z
      simp only at HX HPZ
      have hGR := HZ.out.below hb HS0.out
      have q0 := hGR.at_.kind; have q1 := hGR.at_.t; have q2 := hGR.at_.i; have q3 := hGR.at_.cut; have q4 := hGR.f0; have q5 := hGR.f1; have q6 := hGR.f2; have q7 := hGR.f3
      simp only [Nat.zero_add] at q1 q2 q3
      clear hown hns hnl hb hDR hx0 HX0 HAT HE0 hGR
      by_cases hz : z2 = 0
      · subst hz
        have HX2 : Hid (numsK (r.take (j + 1)) = some (ns ++ [z1])) := by show _ = _; rw [HX.out]; rfl
        have HT4 : Hid (j + 1 ≤ maxLen ∧ (j + 1) * 8 ≤ 140737488355328) := by show _ ∧ _; unfold maxLen; constructor <;> omega
        clear HX HDR q0 q1 q2 q3 q4 q5 q6 q7
        go_wp2_with (first
          | (go_at_call 82; refine (HPZ.out).mono ?_; rintro e w2 ⟨rfl, rfl⟩)
          | (at_builtin; refine wpl_app rfl _ _ 23 rfl w0.heap.size 3 i0 _ 1 8 Tryz.underlying23 hi0 hz0 hz1 hz2 rfl (by decide) (.slice A j cc) j (ns.flatMap zCell) rfl (own_below HOWN.out (al wr _)) (.slice (some ⟨wr.heap.size, 0, none⟩) 1 1) 1 ([z1].flatMap zCell) rfl (sl_lit wr [.int .i64 z1] 3 1 1 1 rfl (Nat.le_refl _)) (z_one _) HT4.out.1 HT4.out.2 (Nat.le_trans HSZ.out (al wr _).size) ?_; intro v6 w6 hown6 hb6; obtain ⟨A6, c6, rfl⟩ := own_shape hown6; have hB6 := btB (balloc HB.out _) hb6 (Nat.le_refl _)))
        go_roundw
        case rel =>
          refine ⟨hB6, j + 1, ns ++ [z1], by omega, by go_num, ⟨A6, c6, rfl⟩, ?_, by simp [HNL.out], HX2.out⟩
          rw [List.flatMap_append]
          exact hown6
        case measure => simp [intOf]; omega
      · have hz3 : (z2 != 0) = true := by rw [bne_iff_ne]; exact hz
        have hz4 : (z2 == 0) = false := by rw [beq_eq_false_iff_ne]; exact hz
        have HN : Hid (pickR (x :: r) = zeroK) := by
          show _ = _
          have h2 := HX.out
          rw [if_neg hz] at h2
          rw [pickR_cons, HDR.out, nums_none _ _ h2]
        clear HX HDR
        go_wp2_with (first
          | (go_at_call 82; refine (HPZ.out).mono ?_; rintro e w2 ⟨rfl, rfl⟩))
        obtain ⟨t0, t1, t2, t3⟩ := set4_kept (a := .int .i64 0) (b := .int .i64 0) (c := .int .i64 0) (d := .slice none 0 0) q0 q1 q2 q3
        refine bodyPost_ret (v := .tuple #[pkV zeroK (.slice none 0 0), .bool (rightK zeroK)]) (by simp [results, Tryz.results83, go_sem, pkV, zeroK, t0, t1, t2, t3]; try rfl) rfl ?_
        rw [HN.out]
        exact ⟨none, 0, rfl, off_nil _ _ 1 0, below_set (below_set (below_set (below_set (bt HB0.out HB.out) (Nat.le_refl _) _) (Nat.le_refl _) _) (Nat.le_refl _) _) (Nat.le_refl _) _⟩
    · obtain rfl : j = r.length := by omega
      have hpk : pickR (x :: r) = refK (kindK x) ns := by
        rw [List.take_length] at hns
        rw [pickR_cons, hns]
      have HPK := Lib.hid hpk
      have HBT := Lib.hid (bt HB0.out hb)
      have HRW := HZ.out.below hb HS0.out
      have hxr : wr.cell? ⟨b0, o0, none⟩ = some (.string (str x)) := (hb.cell (p := ⟨b0, o0, none⟩) hbt0).trans HX0.out
      have hww : w.heap.size < wr.heap.size := Nat.lt_of_lt_of_le HS0.out hb.size
      have HWW := Lib.hid hww
      have hne1 : ¬ (wr.heap.size = w.heap.size) := by omega
      have hne2 : ¬ (w.heap.size = wr.heap.size) := by omega
      have HV : Hid (Zs wr (.slice A r.length cc) ns) := by
        have := sl_of_own hown
        show SlN _ _ 1 ns.length _
        rw [hnl]; exact this
      have HOF : Hid (Off (Old w0.heap.size) wr (fun u => Zs u (.slice A r.length cc) ns)) := by
        show Off _ _ (fun u => SlN u _ 1 ns.length _)
        rw [hnl]
        exact off_own hown (fun k hk (ho : k < w0.heap.size) => by have := (hown.lt k hk).1; omega)
      have HRG := Lib.hid HRW
      have HE1 : Hid (((str x).toList == [115, 116, 101, 112]) = decide (x = wStep)) := word_is x wStep
      have HE2 : Hid (((str x).toList == [111, 117, 116]) = decide (x = wOut)) := word_is x wOut
      have HE3 : Hid (((str x).toList == [99, 114, 97, 115, 104]) = decide (x = wCrash)) := word_is x wCrash
      have hbp : ¬ (b0 = wr.heap.size) := by have := hb.size; omega
      have hpb : ¬ (wr.heap.size = b0) := fun e => hbp e.symm
      clear hpk HRW hown hnl hns HNS HOWN HX0 HAT HE0 hx0 hj hjl HLE HZ hz0 hz1 hz2 hi0
      go_upto_region 10 with fail
      generalize hU : World.alloc wr _ = U
      have hWU : Below wr.heap.size wr U := by subst hU; exact al _ _
      have HPU : Hid (PkB U wr.heap.size zeroK (.slice none 0 0)) := by subst hU; exact pkB_new wr zeroK _
      have hxU : U.cell? ⟨b0, o0, none⟩ = some (.string (str x)) := (hWU.cell (p := ⟨b0, o0, none⟩) (Nat.lt_of_lt_of_le hbt0 hb.size)).trans hxr
      have hlU : wr.heap.size < U.heap.size := by subst hU; rw [World.size_alloc]; omega
      have HWU := Lib.hid hWU
      have HLU := Lib.hid hlU
      have p0 := HPU.out.at_.kind; have p1 := HPU.out.at_.t; have p2 := HPU.out.at_.i; have p3 := HPU.out.at_.cut; have p4 := HPU.out.f0; have p5 := HPU.out.f1; have p6 := HPU.out.f2; have p7 := HPU.out.f3
      simp only [Nat.zero_add] at p1 p2 p3
      clear hU hWU hlU hxr hb
      have HRZ : Hid (PkB U w.heap.size zeroK (.slice none 0 0)) := HRG.out.below HWU.out hww
      have HLW : Hid (w.heap.size < U.heap.size) := Nat.lt_trans hww HLU.out
      rcases kind_some x with hk | hk | hk | hk
      · have e1 := HE1.out; have e2 := HE2.out; have e3 := HE3.out
        have h1 : ¬ x = wStep := fun e => by rw [e] at hk; cases hk
        rw [decide_eq_false h1] at e1
        have n1 : ¬ (str x).toList = [115, 116, 101, 112] := by rw [str_toList]; exact h1
        have h2 : ¬ x = wOut := fun e => by rw [e] at hk; cases hk
        rw [decide_eq_false h2] at e2
        have n2 : ¬ (str x).toList = [111, 117, 116] := by rw [str_toList]; exact h2
        have h3 : ¬ x = wCrash := fun e => by rw [e] at hk; cases hk
        rw [decide_eq_false h3] at e3
        have n3 : ¬ (str x).toList = [99, 114, 97, 115, 104] := by rw [str_toList]; exact h3
        have N1 := Lib.hid n1; have N2 := Lib.hid n2; have N3 := Lib.hid n3
        clear h1 h2 h3 N1 N2 N3
        have HR : Hid (pickR (x :: r) = ⟨0, 0, 0, []⟩) := by show _ = _; rw [HPK.out, hk]; unfold refK; simp [zeroK]
        clear hk HPK
        go_upto_region 16 with fail
        have HPW := HPU
        have HBW := HWU
        have HOFW : Hid (Off (Old w0.heap.size) U (fun u => Zs u (.slice none 0 0) [])) := off_nil _ _ 1 0
        clear HE1 HE2 HE3 HV HOF p0 p1 p2 p3 p4 p5 p6 p7 e1 e2 e3 hxU
        have HXF : Hid (Off (Old w0.heap.size) U (fun u => Zs u (.slice none 0 0) (⟨0, 0, 0, []⟩ : Pk).cut)) := HOFW
        have RT : Hid (∀ u, Below U.heap.size U u → Calls Tryz.prog 30 #[.agg #[.int .i64 0, .int .i64 0, .int .i64 0, .slice none 0 0]] u fun e w' => e = .returned (.bool (rightK ⟨0, 0, 0, []⟩)) ∧ Below u.heap.size u w') := fun u hu => rRight_c ⟨0, 0, 0, []⟩ (.slice none 0 0) u (by show (0:Nat) ≤ 4611686018427387904; omega) ((HXF.out.below hu).now)
        have hS0 : U.cell? ⟨wr.heap.size, 0, none⟩ = some (.int .i64 0) ∧ U.cell? ⟨wr.heap.size, 1, none⟩ = some (.int .i64 0) ∧ U.cell? ⟨wr.heap.size, 2, none⟩ = some (.int .i64 0) ∧ U.cell? ⟨wr.heap.size, 3, none⟩ = some (.slice none 0 0) := ⟨HPW.out.at_.kind, HPW.out.at_.t, HPW.out.at_.i, HPW.out.at_.cut⟩
        have q0 := HRZ.out.at_.kind; have q1 := HRZ.out.at_.t; have q2 := HRZ.out.at_.i; have q3 := HRZ.out.at_.cut; have q4 := HRZ.out.f0; have q5 := HRZ.out.f1; have q6 := HRZ.out.f2; have q7 := HRZ.out.f3
        simp only [Nat.zero_add] at q1 q2 q3
        go_region_held3 (fun w' => w'.cell? ⟨wr.heap.size, 0, none⟩ = some (.int .i64 0) ∧ w'.cell? ⟨wr.heap.size, 1, none⟩ = some (.int .i64 0) ∧ w'.cell? ⟨wr.heap.size, 2, none⟩ = some (.int .i64 0) ∧ w'.cell? ⟨wr.heap.size, 3, none⟩ = some (.slice none 0 0)) (first | exact hS0 | exact hS2 | exact far4 hne1 hS2)
          (first
          | (go_at_call 30; refine (RT.out _ (by repeat (first | exact Below.refl _ _ | refine bdrN ?_ _ | refine bdr ?_))).mono ?_; rintro e w2 ⟨rfl, hb2⟩; have hB2 : Below U.heap.size U w2 := bt (by repeat (first | exact Below.refl _ _ | refine bdrN ?_ _ | refine bdr ?_)) hb2; have pp := HPW.out.below hB2 HLU.out; have qq := HRZ.out.below hB2 HLW.out; have hS2 : w2.cell? ⟨wr.heap.size, 0, none⟩ = some (.int .i64 0) ∧ w2.cell? ⟨wr.heap.size, 1, none⟩ = some (.int .i64 0) ∧ w2.cell? ⟨wr.heap.size, 2, none⟩ = some (.int .i64 0) ∧ w2.cell? ⟨wr.heap.size, 3, none⟩ = some (.slice none 0 0) := ⟨pp.at_.kind, pp.at_.t, pp.at_.i, pp.at_.cut⟩; have s0 := qq.at_.kind; have s1 := qq.at_.t; have s2 := qq.at_.i; have s3 := qq.at_.cut; have s4 := qq.f0; have s5 := qq.f1; have s6 := qq.f2; have s7 := qq.f3; simp only [Nat.zero_add] at s1 s2 s3))
        all_goals
          go_wp2_with fail
          have hF : Below w.heap.size w w2 := bt (bt HBT.out HBW.out) hB2
          have hO : Off (Old w0.heap.size) w2 (fun u => Zs u (.slice none 0 0) (⟨0, 0, 0, []⟩ : Pk).cut) := HXF.out.below hB2
          refine bodyPost_ret (v := .tuple #[.agg #[.int .i64 0, .int .i64 0, .int .i64 0, .slice none 0 0], .bool (rightK ⟨0, 0, 0, []⟩)]) (by simp [results, Tryz.results83, go_sem, World.cell?_setCell_other, World.cell?_setCell_same', s0, s1, s2, s3]; try rfl) rfl ?_
          rw [HR.out]
          exact ⟨none, 0, rfl, Off.mono (by repeat (first | exact hO | refine Off.setCell ?_ _ HS0.out _ | refine Off.drew ?_)) (fun k _ (h : k < w.heap.size) => Nat.lt_trans h HS0.out), (by repeat (first | exact hF | refine below_set ?_ (Nat.le_refl _) _ | refine bdr ?_))⟩
      · by_cases hl : ns.length = 1
        · obtain ⟨n0, rfl⟩ : ∃ n0, ns = [n0] := List.length_eq_one_iff.1 hl
          have hl1 : r.length = 1 := by rw [← HNL.out]; rfl
          have hl2 : ((r.length : Int) == 1) = true := by rw [hl1]; rfl
          have hl3 : (0 : Int) < (r.length : Int) := by omega
          obtain ⟨bz, oz, cz, hEz, _, hlz, hatz⟩ := Zs.at_ (l := [n0]) HV.out (by simp)
          rw [HNL.out] at hEz
          cases hEz
          have hz := hatz 0 (by simp)
          rw [Nat.add_zero] at hz
          have hz : wr.cell? ⟨bz, oz, none⟩ = some (.int .i64 n0) := hz
          have hzU := (HWU.out.cell (p := ⟨bz, oz, none⟩) hlz).trans hz
          have e1 := HE1.out; have e2 := HE2.out; have e3 := HE3.out
          have h1 : x = wStep := kind_step hk
          rw [decide_eq_true h1] at e1
          have n1 : (str x).toList = [115, 116, 101, 112] := by rw [str_toList]; exact h1
          have h2 : ¬ x = wOut := fun e => by rw [e] at hk; cases hk
          rw [decide_eq_false h2] at e2
          have n2 : ¬ (str x).toList = [111, 117, 116] := by rw [str_toList]; exact h2
          have h3 : ¬ x = wCrash := fun e => by rw [e] at hk; cases hk
          rw [decide_eq_false h3] at e3
          have n3 : ¬ (str x).toList = [99, 114, 97, 115, 104] := by rw [str_toList]; exact h3
          have N1 := Lib.hid n1; have N2 := Lib.hid n2; have N3 := Lib.hid n3
          clear n1
          clear h1 h2 h3 N1 N2 N3
          have HR : Hid (pickR (x :: r) = ⟨1, n0, 0, []⟩) := by show _ = _; rw [HPK.out, hk]; unfold refK; simp
          clear hk HPK hl hl1 hatz hz
          go_upto_region 16 with fail
          have HPW : Hid (PkB ((((U.setCell ⟨wr.heap.size, 0, none⟩ (.int .i64 1)).setCell ⟨wr.heap.size, 1, none⟩ (.int .i64 n0)).setCell ⟨wr.heap.size, 2, none⟩ (.int .i64 0)).setCell ⟨wr.heap.size, 3, none⟩ (.slice none 0 0)) wr.heap.size ⟨1, n0, 0, []⟩ (.slice none 0 0)) := (PkB_four HPU.out _ _ _ _ _)
          have HBW : Hid (Below wr.heap.size wr ((((U.setCell ⟨wr.heap.size, 0, none⟩ (.int .i64 1)).setCell ⟨wr.heap.size, 1, none⟩ (.int .i64 n0)).setCell ⟨wr.heap.size, 2, none⟩ (.int .i64 0)).setCell ⟨wr.heap.size, 3, none⟩ (.slice none 0 0))) := (below_set (below_set (below_set (below_set HWU.out (Nat.le_refl _) _) (Nat.le_refl _) _) (Nat.le_refl _) _) (Nat.le_refl _) _)
          have HRZ2 := HRG.out.below HBW.out HWW.out
          have HLU2 : Hid (wr.heap.size < World.heapsize ((((U.setCell ⟨wr.heap.size, 0, none⟩ (.int .i64 1)).setCell ⟨wr.heap.size, 1, none⟩ (.int .i64 n0)).setCell ⟨wr.heap.size, 2, none⟩ (.int .i64 0)).setCell ⟨wr.heap.size, 3, none⟩ (.slice none 0 0))) := by show _ < _; unfold World.heapsize; simpa [World.setCell] using HLU.out
          have HOFW : Hid (Off (Old w0.heap.size) (((((U.setCell ⟨wr.heap.size, 0, none⟩ (.int .i64 1)).setCell ⟨wr.heap.size, 1, none⟩ (.int .i64 n0)).setCell ⟨wr.heap.size, 2, none⟩ (.int .i64 0)).setCell ⟨wr.heap.size, 3, none⟩ (.slice none 0 0))) (fun u => Zs u (.slice none 0 0) [])) := off_nil _ _ 1 0
          clear HRZ HLU HLW
          clear HE1 HE2 HE3 HV HOF p0 p1 p2 p3 p4 p5 p6 p7 e1 e2 e3 hxU

          generalize World.setCell (World.setCell (World.setCell (World.setCell U _ _) _ _) _ _) _ _ = U2 at HPW HBW HRZ2 HLU2 HOFW ⊢
          have HRZ := Lib.hid HRZ2
          have HLU : Hid (wr.heap.size < U2.heap.size) := HLU2
          have HLW : Hid (w.heap.size < U2.heap.size) := Nat.lt_trans hww HLU.out
          clear HRZ2 HLU2
          have HXF : Hid (Off (Old w0.heap.size) U2 (fun u => Zs u (.slice none 0 0) (⟨1, n0, 0, []⟩ : Pk).cut)) := HOFW
          have RT : Hid (∀ u, Below U2.heap.size U2 u → Calls Tryz.prog 30 #[.agg #[.int .i64 1, .int .i64 n0, .int .i64 0, .slice none 0 0]] u fun e w' => e = .returned (.bool (rightK ⟨1, n0, 0, []⟩)) ∧ Below u.heap.size u w') := fun u hu => rRight_c ⟨1, n0, 0, []⟩ (.slice none 0 0) u (by show (0:Nat) ≤ 4611686018427387904; omega) ((HXF.out.below hu).now)
          have hS0 : U2.cell? ⟨wr.heap.size, 0, none⟩ = some (.int .i64 1) ∧ U2.cell? ⟨wr.heap.size, 1, none⟩ = some (.int .i64 n0) ∧ U2.cell? ⟨wr.heap.size, 2, none⟩ = some (.int .i64 0) ∧ U2.cell? ⟨wr.heap.size, 3, none⟩ = some (.slice none 0 0) := ⟨HPW.out.at_.kind, HPW.out.at_.t, HPW.out.at_.i, HPW.out.at_.cut⟩
          have q0 := HRZ.out.at_.kind; have q1 := HRZ.out.at_.t; have q2 := HRZ.out.at_.i; have q3 := HRZ.out.at_.cut; have q4 := HRZ.out.f0; have q5 := HRZ.out.f1; have q6 := HRZ.out.f2; have q7 := HRZ.out.f3
          simp only [Nat.zero_add] at q1 q2 q3
          go_region_held3 (fun w' => w'.cell? ⟨wr.heap.size, 0, none⟩ = some (.int .i64 1) ∧ w'.cell? ⟨wr.heap.size, 1, none⟩ = some (.int .i64 n0) ∧ w'.cell? ⟨wr.heap.size, 2, none⟩ = some (.int .i64 0) ∧ w'.cell? ⟨wr.heap.size, 3, none⟩ = some (.slice none 0 0)) (first | exact hS0 | exact hS2 | exact far4 hne1 hS2)
            (first
            | (go_at_call 30; refine (RT.out _ (by repeat (first | exact Below.refl _ _ | refine bdrN ?_ _ | refine bdr ?_))).mono ?_; rintro e w2 ⟨rfl, hb2⟩; have hB2 : Below U2.heap.size U2 w2 := bt (by repeat (first | exact Below.refl _ _ | refine bdrN ?_ _ | refine bdr ?_)) hb2; have pp := HPW.out.below hB2 HLU.out; have qq := HRZ.out.below hB2 HLW.out; have hS2 : w2.cell? ⟨wr.heap.size, 0, none⟩ = some (.int .i64 1) ∧ w2.cell? ⟨wr.heap.size, 1, none⟩ = some (.int .i64 n0) ∧ w2.cell? ⟨wr.heap.size, 2, none⟩ = some (.int .i64 0) ∧ w2.cell? ⟨wr.heap.size, 3, none⟩ = some (.slice none 0 0) := ⟨pp.at_.kind, pp.at_.t, pp.at_.i, pp.at_.cut⟩; have s0 := qq.at_.kind; have s1 := qq.at_.t; have s2 := qq.at_.i; have s3 := qq.at_.cut; have s4 := qq.f0; have s5 := qq.f1; have s6 := qq.f2; have s7 := qq.f3; simp only [Nat.zero_add] at s1 s2 s3))
          all_goals
            go_wp2_with fail
            have hF : Below w.heap.size w w2 := bt (bt HBT.out HBW.out) hB2
            have hO : Off (Old w0.heap.size) w2 (fun u => Zs u (.slice none 0 0) (⟨1, n0, 0, []⟩ : Pk).cut) := HXF.out.below hB2
            refine bodyPost_ret (v := .tuple #[.agg #[.int .i64 1, .int .i64 n0, .int .i64 0, .slice none 0 0], .bool (rightK ⟨1, n0, 0, []⟩)]) (by simp [results, Tryz.results83, go_sem, World.cell?_setCell_other, World.cell?_setCell_same', s0, s1, s2, s3]; try rfl) rfl ?_
            rw [HR.out]
            exact ⟨none, 0, rfl, Off.mono (by repeat (first | exact hO | refine Off.setCell ?_ _ HS0.out _ | refine Off.drew ?_)) (fun k _ (h : k < w.heap.size) => Nat.lt_trans h HS0.out), (by repeat (first | exact hF | refine below_set ?_ (Nat.le_refl _) _ | refine bdr ?_))⟩
        · have hl2 : ((r.length : Int) == 1) = false := by rw [beq_eq_false_iff_ne]; have := HNL.out; omega
          have e1 := HE1.out; have e2 := HE2.out; have e3 := HE3.out
          have h1 : x = wStep := kind_step hk
          rw [decide_eq_true h1] at e1
          have n1 : (str x).toList = [115, 116, 101, 112] := by rw [str_toList]; exact h1
          have h2 : ¬ x = wOut := fun e => by rw [e] at hk; cases hk
          rw [decide_eq_false h2] at e2
          have n2 : ¬ (str x).toList = [111, 117, 116] := by rw [str_toList]; exact h2
          have h3 : ¬ x = wCrash := fun e => by rw [e] at hk; cases hk
          rw [decide_eq_false h3] at e3
          have n3 : ¬ (str x).toList = [99, 114, 97, 115, 104] := by rw [str_toList]; exact h3
          have N1 := Lib.hid n1; have N2 := Lib.hid n2; have N3 := Lib.hid n3
          clear n1
          clear h1 h2 h3 N1 N2 N3
          have HR : Hid (pickR (x :: r) = ⟨0, 0, 0, []⟩) := by show _ = _; rw [HPK.out, hk]; unfold refK; simp [hl, zeroK]
          clear hk HPK hl
          go_upto_region 16 with fail
          have HPW := HPU
          have HBW := HWU
          have HOFW : Hid (Off (Old w0.heap.size) U (fun u => Zs u (.slice none 0 0) [])) := off_nil _ _ 1 0
          clear HE1 HE2 HE3 HV HOF p0 p1 p2 p3 p4 p5 p6 p7 e1 e2 e3 hxU
          have HXF : Hid (Off (Old w0.heap.size) U (fun u => Zs u (.slice none 0 0) (⟨0, 0, 0, []⟩ : Pk).cut)) := HOFW
          have RT : Hid (∀ u, Below U.heap.size U u → Calls Tryz.prog 30 #[.agg #[.int .i64 0, .int .i64 0, .int .i64 0, .slice none 0 0]] u fun e w' => e = .returned (.bool (rightK ⟨0, 0, 0, []⟩)) ∧ Below u.heap.size u w') := fun u hu => rRight_c ⟨0, 0, 0, []⟩ (.slice none 0 0) u (by show (0:Nat) ≤ 4611686018427387904; omega) ((HXF.out.below hu).now)
          have hS0 : U.cell? ⟨wr.heap.size, 0, none⟩ = some (.int .i64 0) ∧ U.cell? ⟨wr.heap.size, 1, none⟩ = some (.int .i64 0) ∧ U.cell? ⟨wr.heap.size, 2, none⟩ = some (.int .i64 0) ∧ U.cell? ⟨wr.heap.size, 3, none⟩ = some (.slice none 0 0) := ⟨HPW.out.at_.kind, HPW.out.at_.t, HPW.out.at_.i, HPW.out.at_.cut⟩
          have q0 := HRZ.out.at_.kind; have q1 := HRZ.out.at_.t; have q2 := HRZ.out.at_.i; have q3 := HRZ.out.at_.cut; have q4 := HRZ.out.f0; have q5 := HRZ.out.f1; have q6 := HRZ.out.f2; have q7 := HRZ.out.f3
          simp only [Nat.zero_add] at q1 q2 q3
          go_region_held3 (fun w' => w'.cell? ⟨wr.heap.size, 0, none⟩ = some (.int .i64 0) ∧ w'.cell? ⟨wr.heap.size, 1, none⟩ = some (.int .i64 0) ∧ w'.cell? ⟨wr.heap.size, 2, none⟩ = some (.int .i64 0) ∧ w'.cell? ⟨wr.heap.size, 3, none⟩ = some (.slice none 0 0)) (first | exact hS0 | exact hS2 | exact far4 hne1 hS2)
            (first
            | (go_at_call 30; refine (RT.out _ (by repeat (first | exact Below.refl _ _ | refine bdrN ?_ _ | refine bdr ?_))).mono ?_; rintro e w2 ⟨rfl, hb2⟩; have hB2 : Below U.heap.size U w2 := bt (by repeat (first | exact Below.refl _ _ | refine bdrN ?_ _ | refine bdr ?_)) hb2; have pp := HPW.out.below hB2 HLU.out; have qq := HRZ.out.below hB2 HLW.out; have hS2 : w2.cell? ⟨wr.heap.size, 0, none⟩ = some (.int .i64 0) ∧ w2.cell? ⟨wr.heap.size, 1, none⟩ = some (.int .i64 0) ∧ w2.cell? ⟨wr.heap.size, 2, none⟩ = some (.int .i64 0) ∧ w2.cell? ⟨wr.heap.size, 3, none⟩ = some (.slice none 0 0) := ⟨pp.at_.kind, pp.at_.t, pp.at_.i, pp.at_.cut⟩; have s0 := qq.at_.kind; have s1 := qq.at_.t; have s2 := qq.at_.i; have s3 := qq.at_.cut; have s4 := qq.f0; have s5 := qq.f1; have s6 := qq.f2; have s7 := qq.f3; simp only [Nat.zero_add] at s1 s2 s3))
          all_goals
            go_wp2_with fail
            have hF : Below w.heap.size w w2 := bt (bt HBT.out HBW.out) hB2
            have hO : Off (Old w0.heap.size) w2 (fun u => Zs u (.slice none 0 0) (⟨0, 0, 0, []⟩ : Pk).cut) := HXF.out.below hB2
            refine bodyPost_ret (v := .tuple #[.agg #[.int .i64 0, .int .i64 0, .int .i64 0, .slice none 0 0], .bool (rightK ⟨0, 0, 0, []⟩)]) (by simp [results, Tryz.results83, go_sem, World.cell?_setCell_other, World.cell?_setCell_same', s0, s1, s2, s3]; try rfl) rfl ?_
            rw [HR.out]
            exact ⟨none, 0, rfl, Off.mono (by repeat (first | exact hO | refine Off.setCell ?_ _ HS0.out _ | refine Off.drew ?_)) (fun k _ (h : k < w.heap.size) => Nat.lt_trans h HS0.out), (by repeat (first | exact hF | refine below_set ?_ (Nat.le_refl _) _ | refine bdr ?_))⟩
      · by_cases hl : ns.length = 2
        · obtain ⟨m0, m1, rfl⟩ : ∃ m0 m1, ns = [m0, m1] := by
            match ns, hl with
            | [a, b], _ => exact ⟨a, b, rfl⟩
          have hl1 : r.length = 2 := by rw [← HNL.out]; rfl
          have hl2 : ((r.length : Int) == 2) = true := by rw [hl1]; rfl
          have hl3 : (0 : Int) < (r.length : Int) := by omega
          have hl4 : (1 : Int) < (r.length : Int) := by omega
          obtain ⟨bz, oz, cz, hEz, _, hlz, hatz⟩ := Zs.at_ (l := [m0, m1]) HV.out (by simp)
          rw [HNL.out] at hEz
          cases hEz
          have hz := hatz 0 (by simp)
          rw [Nat.add_zero] at hz
          have hz : wr.cell? ⟨bz, oz, none⟩ = some (.int .i64 m0) := hz
          have hy : wr.cell? ⟨bz, oz + 1, none⟩ = some (.int .i64 m1) := hatz 1 (by simp)
          have hzU := (HWU.out.cell (p := ⟨bz, oz, none⟩) hlz).trans hz
          have hyU := (HWU.out.cell (p := ⟨bz, oz + 1, none⟩) hlz).trans hy
          have e1 := HE1.out; have e2 := HE2.out; have e3 := HE3.out
          have h1 : ¬ x = wStep := fun e => by rw [e] at hk; cases hk
          rw [decide_eq_false h1] at e1
          have n1 : ¬ (str x).toList = [115, 116, 101, 112] := by rw [str_toList]; exact h1
          have h2 : x = wOut := kind_out hk
          rw [decide_eq_true h2] at e2
          have n2 : (str x).toList = [111, 117, 116] := by rw [str_toList]; exact h2
          have h3 : ¬ x = wCrash := fun e => by rw [e] at hk; cases hk
          rw [decide_eq_false h3] at e3
          have n3 : ¬ (str x).toList = [99, 114, 97, 115, 104] := by rw [str_toList]; exact h3
          have N1 := Lib.hid n1; have N2 := Lib.hid n2; have N3 := Lib.hid n3
          clear n2
          clear h1 h2 h3 N1 N2 N3
          have HR : Hid (pickR (x :: r) = ⟨2, m0, m1, []⟩) := by show _ = _; rw [HPK.out, hk]; unfold refK; simp
          clear hk HPK hl hl1 hatz hz hy
          go_upto_region 13 with fail
          go_region
          go_upto_region 16 with fail
          have HPW : Hid (PkB ((((U.setCell ⟨wr.heap.size, 0, none⟩ (.int .i64 2)).setCell ⟨wr.heap.size, 1, none⟩ (.int .i64 m0)).setCell ⟨wr.heap.size, 2, none⟩ (.int .i64 m1)).setCell ⟨wr.heap.size, 3, none⟩ (.slice none 0 0)).drew wr.heap.size ⟨2, m0, m1, []⟩ (.slice none 0 0)) := (PkB_four HPU.out _ _ _ _ _).drew
          have HBW : Hid (Below wr.heap.size wr ((((U.setCell ⟨wr.heap.size, 0, none⟩ (.int .i64 2)).setCell ⟨wr.heap.size, 1, none⟩ (.int .i64 m0)).setCell ⟨wr.heap.size, 2, none⟩ (.int .i64 m1)).setCell ⟨wr.heap.size, 3, none⟩ (.slice none 0 0)).drew) := bdr (below_set (below_set (below_set (below_set HWU.out (Nat.le_refl _) _) (Nat.le_refl _) _) (Nat.le_refl _) _) (Nat.le_refl _) _)
          have HRZ2 := HRG.out.below HBW.out HWW.out
          have HLU2 : Hid (wr.heap.size < World.heapsize ((((U.setCell ⟨wr.heap.size, 0, none⟩ (.int .i64 2)).setCell ⟨wr.heap.size, 1, none⟩ (.int .i64 m0)).setCell ⟨wr.heap.size, 2, none⟩ (.int .i64 m1)).setCell ⟨wr.heap.size, 3, none⟩ (.slice none 0 0)).drew) := by show _ < _; unfold World.heapsize; simpa [World.setCell] using HLU.out
          have HOFW : Hid (Off (Old w0.heap.size) (((((U.setCell ⟨wr.heap.size, 0, none⟩ (.int .i64 2)).setCell ⟨wr.heap.size, 1, none⟩ (.int .i64 m0)).setCell ⟨wr.heap.size, 2, none⟩ (.int .i64 m1)).setCell ⟨wr.heap.size, 3, none⟩ (.slice none 0 0)).drew) (fun u => Zs u (.slice none 0 0) [])) := off_nil _ _ 1 0
          clear HRZ HLU HLW
          clear HE1 HE2 HE3 HV HOF p0 p1 p2 p3 p4 p5 p6 p7 e1 e2 e3 hxU

          generalize World.drew _ = U2 at HPW HBW HRZ2 HLU2 HOFW ⊢
          have HRZ := Lib.hid HRZ2
          have HLU : Hid (wr.heap.size < U2.heap.size) := HLU2
          have HLW : Hid (w.heap.size < U2.heap.size) := Nat.lt_trans hww HLU.out
          clear HRZ2 HLU2
          have HXF : Hid (Off (Old w0.heap.size) U2 (fun u => Zs u (.slice none 0 0) (⟨2, m0, m1, []⟩ : Pk).cut)) := HOFW
          have RT : Hid (∀ u, Below U2.heap.size U2 u → Calls Tryz.prog 30 #[.agg #[.int .i64 2, .int .i64 m0, .int .i64 m1, .slice none 0 0]] u fun e w' => e = .returned (.bool (rightK ⟨2, m0, m1, []⟩)) ∧ Below u.heap.size u w') := fun u hu => rRight_c ⟨2, m0, m1, []⟩ (.slice none 0 0) u (by show (0:Nat) ≤ 4611686018427387904; omega) ((HXF.out.below hu).now)
          have hS0 : U2.cell? ⟨wr.heap.size, 0, none⟩ = some (.int .i64 2) ∧ U2.cell? ⟨wr.heap.size, 1, none⟩ = some (.int .i64 m0) ∧ U2.cell? ⟨wr.heap.size, 2, none⟩ = some (.int .i64 m1) ∧ U2.cell? ⟨wr.heap.size, 3, none⟩ = some (.slice none 0 0) := ⟨HPW.out.at_.kind, HPW.out.at_.t, HPW.out.at_.i, HPW.out.at_.cut⟩
          have q0 := HRZ.out.at_.kind; have q1 := HRZ.out.at_.t; have q2 := HRZ.out.at_.i; have q3 := HRZ.out.at_.cut; have q4 := HRZ.out.f0; have q5 := HRZ.out.f1; have q6 := HRZ.out.f2; have q7 := HRZ.out.f3
          simp only [Nat.zero_add] at q1 q2 q3
          go_region_held3 (fun w' => w'.cell? ⟨wr.heap.size, 0, none⟩ = some (.int .i64 2) ∧ w'.cell? ⟨wr.heap.size, 1, none⟩ = some (.int .i64 m0) ∧ w'.cell? ⟨wr.heap.size, 2, none⟩ = some (.int .i64 m1) ∧ w'.cell? ⟨wr.heap.size, 3, none⟩ = some (.slice none 0 0)) (first | exact hS0 | exact hS2 | exact far4 hne1 hS2)
            (first
            | (go_at_call 30; refine (RT.out _ (by repeat (first | exact Below.refl _ _ | refine bdrN ?_ _ | refine bdr ?_))).mono ?_; rintro e w2 ⟨rfl, hb2⟩; have hB2 : Below U2.heap.size U2 w2 := bt (by repeat (first | exact Below.refl _ _ | refine bdrN ?_ _ | refine bdr ?_)) hb2; have pp := HPW.out.below hB2 HLU.out; have qq := HRZ.out.below hB2 HLW.out; have hS2 : w2.cell? ⟨wr.heap.size, 0, none⟩ = some (.int .i64 2) ∧ w2.cell? ⟨wr.heap.size, 1, none⟩ = some (.int .i64 m0) ∧ w2.cell? ⟨wr.heap.size, 2, none⟩ = some (.int .i64 m1) ∧ w2.cell? ⟨wr.heap.size, 3, none⟩ = some (.slice none 0 0) := ⟨pp.at_.kind, pp.at_.t, pp.at_.i, pp.at_.cut⟩; have s0 := qq.at_.kind; have s1 := qq.at_.t; have s2 := qq.at_.i; have s3 := qq.at_.cut; have s4 := qq.f0; have s5 := qq.f1; have s6 := qq.f2; have s7 := qq.f3; simp only [Nat.zero_add] at s1 s2 s3))
          all_goals
            go_wp2_with fail
            have hF : Below w.heap.size w w2 := bt (bt HBT.out HBW.out) hB2
            have hO : Off (Old w0.heap.size) w2 (fun u => Zs u (.slice none 0 0) (⟨2, m0, m1, []⟩ : Pk).cut) := HXF.out.below hB2
            refine bodyPost_ret (v := .tuple #[.agg #[.int .i64 2, .int .i64 m0, .int .i64 m1, .slice none 0 0], .bool (rightK ⟨2, m0, m1, []⟩)]) (by simp [results, Tryz.results83, go_sem, World.cell?_setCell_other, World.cell?_setCell_same', s0, s1, s2, s3]; try rfl) rfl ?_
            rw [HR.out]
            exact ⟨none, 0, rfl, Off.mono (by repeat (first | exact hO | refine Off.setCell ?_ _ HS0.out _ | refine Off.drew ?_)) (fun k _ (h : k < w.heap.size) => Nat.lt_trans h HS0.out), (by repeat (first | exact hF | refine below_set ?_ (Nat.le_refl _) _ | refine bdr ?_))⟩
        · have hl2 : ((r.length : Int) == 2) = false := by rw [beq_eq_false_iff_ne]; have := HNL.out; omega
          have e1 := HE1.out; have e2 := HE2.out; have e3 := HE3.out
          have h1 : ¬ x = wStep := fun e => by rw [e] at hk; cases hk
          rw [decide_eq_false h1] at e1
          have n1 : ¬ (str x).toList = [115, 116, 101, 112] := by rw [str_toList]; exact h1
          have h2 : x = wOut := kind_out hk
          rw [decide_eq_true h2] at e2
          have n2 : (str x).toList = [111, 117, 116] := by rw [str_toList]; exact h2
          have h3 : ¬ x = wCrash := fun e => by rw [e] at hk; cases hk
          rw [decide_eq_false h3] at e3
          have n3 : ¬ (str x).toList = [99, 114, 97, 115, 104] := by rw [str_toList]; exact h3
          have N1 := Lib.hid n1; have N2 := Lib.hid n2; have N3 := Lib.hid n3
          clear n2
          clear h1 h2 h3 N1 N2 N3
          have HR : Hid (pickR (x :: r) = ⟨0, 0, 0, []⟩) := by show _ = _; rw [HPK.out, hk]; unfold refK; simp [hl, zeroK]
          clear hk HPK hl
          go_upto_region 16 with fail
          have HPW := HPU
          have HBW := HWU
          have HOFW : Hid (Off (Old w0.heap.size) U (fun u => Zs u (.slice none 0 0) [])) := off_nil _ _ 1 0
          clear HE1 HE2 HE3 HV HOF p0 p1 p2 p3 p4 p5 p6 p7 e1 e2 e3 hxU
          have HXF : Hid (Off (Old w0.heap.size) U (fun u => Zs u (.slice none 0 0) (⟨0, 0, 0, []⟩ : Pk).cut)) := HOFW
          have RT : Hid (∀ u, Below U.heap.size U u → Calls Tryz.prog 30 #[.agg #[.int .i64 0, .int .i64 0, .int .i64 0, .slice none 0 0]] u fun e w' => e = .returned (.bool (rightK ⟨0, 0, 0, []⟩)) ∧ Below u.heap.size u w') := fun u hu => rRight_c ⟨0, 0, 0, []⟩ (.slice none 0 0) u (by show (0:Nat) ≤ 4611686018427387904; omega) ((HXF.out.below hu).now)
          have hS0 : U.cell? ⟨wr.heap.size, 0, none⟩ = some (.int .i64 0) ∧ U.cell? ⟨wr.heap.size, 1, none⟩ = some (.int .i64 0) ∧ U.cell? ⟨wr.heap.size, 2, none⟩ = some (.int .i64 0) ∧ U.cell? ⟨wr.heap.size, 3, none⟩ = some (.slice none 0 0) := ⟨HPW.out.at_.kind, HPW.out.at_.t, HPW.out.at_.i, HPW.out.at_.cut⟩
          have q0 := HRZ.out.at_.kind; have q1 := HRZ.out.at_.t; have q2 := HRZ.out.at_.i; have q3 := HRZ.out.at_.cut; have q4 := HRZ.out.f0; have q5 := HRZ.out.f1; have q6 := HRZ.out.f2; have q7 := HRZ.out.f3
          simp only [Nat.zero_add] at q1 q2 q3
          go_region_held3 (fun w' => w'.cell? ⟨wr.heap.size, 0, none⟩ = some (.int .i64 0) ∧ w'.cell? ⟨wr.heap.size, 1, none⟩ = some (.int .i64 0) ∧ w'.cell? ⟨wr.heap.size, 2, none⟩ = some (.int .i64 0) ∧ w'.cell? ⟨wr.heap.size, 3, none⟩ = some (.slice none 0 0)) (first | exact hS0 | exact hS2 | exact far4 hne1 hS2)
            (first
            | (go_at_call 30; refine (RT.out _ (by repeat (first | exact Below.refl _ _ | refine bdrN ?_ _ | refine bdr ?_))).mono ?_; rintro e w2 ⟨rfl, hb2⟩; have hB2 : Below U.heap.size U w2 := bt (by repeat (first | exact Below.refl _ _ | refine bdrN ?_ _ | refine bdr ?_)) hb2; have pp := HPW.out.below hB2 HLU.out; have qq := HRZ.out.below hB2 HLW.out; have hS2 : w2.cell? ⟨wr.heap.size, 0, none⟩ = some (.int .i64 0) ∧ w2.cell? ⟨wr.heap.size, 1, none⟩ = some (.int .i64 0) ∧ w2.cell? ⟨wr.heap.size, 2, none⟩ = some (.int .i64 0) ∧ w2.cell? ⟨wr.heap.size, 3, none⟩ = some (.slice none 0 0) := ⟨pp.at_.kind, pp.at_.t, pp.at_.i, pp.at_.cut⟩; have s0 := qq.at_.kind; have s1 := qq.at_.t; have s2 := qq.at_.i; have s3 := qq.at_.cut; have s4 := qq.f0; have s5 := qq.f1; have s6 := qq.f2; have s7 := qq.f3; simp only [Nat.zero_add] at s1 s2 s3))
          all_goals
            go_wp2_with fail
            have hF : Below w.heap.size w w2 := bt (bt HBT.out HBW.out) hB2
            have hO : Off (Old w0.heap.size) w2 (fun u => Zs u (.slice none 0 0) (⟨0, 0, 0, []⟩ : Pk).cut) := HXF.out.below hB2
            refine bodyPost_ret (v := .tuple #[.agg #[.int .i64 0, .int .i64 0, .int .i64 0, .slice none 0 0], .bool (rightK ⟨0, 0, 0, []⟩)]) (by simp [results, Tryz.results83, go_sem, World.cell?_setCell_other, World.cell?_setCell_same', s0, s1, s2, s3]; try rfl) rfl ?_
            rw [HR.out]
            exact ⟨none, 0, rfl, Off.mono (by repeat (first | exact hO | refine Off.setCell ?_ _ HS0.out _ | refine Off.drew ?_)) (fun k _ (h : k < w.heap.size) => Nat.lt_trans h HS0.out), (by repeat (first | exact hF | refine below_set ?_ (Nat.le_refl _) _ | refine bdr ?_))⟩
      · have e1 := HE1.out; have e2 := HE2.out; have e3 := HE3.out
        have h1 : ¬ x = wStep := fun e => by rw [e] at hk; cases hk
        rw [decide_eq_false h1] at e1
        have n1 : ¬ (str x).toList = [115, 116, 101, 112] := by rw [str_toList]; exact h1
        have h2 : ¬ x = wOut := fun e => by rw [e] at hk; cases hk
        rw [decide_eq_false h2] at e2
        have n2 : ¬ (str x).toList = [111, 117, 116] := by rw [str_toList]; exact h2
        have h3 : x = wCrash := kind_crash hk
        rw [decide_eq_true h3] at e3
        have n3 : (str x).toList = [99, 114, 97, 115, 104] := by rw [str_toList]; exact h3
        have N1 := Lib.hid n1; have N2 := Lib.hid n2; have N3 := Lib.hid n3
        clear n3
        clear h1 h2 h3 N1 N2 N3
        have HR : Hid (pickR (x :: r) = ⟨3, 0, 0, ns⟩) := by show _ = _; rw [HPK.out, hk]; unfold refK; simp
        clear hk HPK
        go_upto_region 16 with fail
        have HPW : Hid (PkB ((((U.setCell ⟨wr.heap.size, 0, none⟩ (.int .i64 3)).setCell ⟨wr.heap.size, 1, none⟩ (.int .i64 0)).setCell ⟨wr.heap.size, 2, none⟩ (.int .i64 0)).setCell ⟨wr.heap.size, 3, none⟩ (.slice A r.length cc)) wr.heap.size ⟨3, 0, 0, ns⟩ (.slice A r.length cc)) := (PkB_four HPU.out _ _ _ _ _)
        have HBW : Hid (Below wr.heap.size wr ((((U.setCell ⟨wr.heap.size, 0, none⟩ (.int .i64 3)).setCell ⟨wr.heap.size, 1, none⟩ (.int .i64 0)).setCell ⟨wr.heap.size, 2, none⟩ (.int .i64 0)).setCell ⟨wr.heap.size, 3, none⟩ (.slice A r.length cc))) := (below_set (below_set (below_set (below_set HWU.out (Nat.le_refl _) _) (Nat.le_refl _) _) (Nat.le_refl _) _) (Nat.le_refl _) _)
        have HRZ2 := HRG.out.below HBW.out HWW.out
        have HLU2 : Hid (wr.heap.size < World.heapsize ((((U.setCell ⟨wr.heap.size, 0, none⟩ (.int .i64 3)).setCell ⟨wr.heap.size, 1, none⟩ (.int .i64 0)).setCell ⟨wr.heap.size, 2, none⟩ (.int .i64 0)).setCell ⟨wr.heap.size, 3, none⟩ (.slice A r.length cc))) := by show _ < _; unfold World.heapsize; simpa [World.setCell] using HLU.out
        have HOFW : Hid (Off (Old w0.heap.size) (((((U.setCell ⟨wr.heap.size, 0, none⟩ (.int .i64 3)).setCell ⟨wr.heap.size, 1, none⟩ (.int .i64 0)).setCell ⟨wr.heap.size, 2, none⟩ (.int .i64 0)).setCell ⟨wr.heap.size, 3, none⟩ (.slice A r.length cc))) (fun u => Zs u (.slice A r.length cc) ns)) := HOF.out.below HBW.out
        clear HRZ HLU HLW
        clear HE1 HE2 HE3 HV HOF p0 p1 p2 p3 p4 p5 p6 p7 e1 e2 e3 hxU

        generalize World.setCell (World.setCell (World.setCell (World.setCell U _ _) _ _) _ _) _ _ = U2 at HPW HBW HRZ2 HLU2 HOFW ⊢
        have HRZ := Lib.hid HRZ2
        have HLU : Hid (wr.heap.size < U2.heap.size) := HLU2
        have HLW : Hid (w.heap.size < U2.heap.size) := Nat.lt_trans hww HLU.out
        clear HRZ2 HLU2
        have HXF : Hid (Off (Old w0.heap.size) U2 (fun u => Zs u (.slice A r.length cc) (⟨3, 0, 0, ns⟩ : Pk).cut)) := HOFW
        have RT : Hid (∀ u, Below U2.heap.size U2 u → Calls Tryz.prog 30 #[.agg #[.int .i64 3, .int .i64 0, .int .i64 0, .slice A r.length cc]] u fun e w' => e = .returned (.bool (rightK ⟨3, 0, 0, ns⟩)) ∧ Below u.heap.size u w') := fun u hu => rRight_c ⟨3, 0, 0, ns⟩ (.slice A r.length cc) u (by show ns.length ≤ _; rw [HNL.out]; omega) ((HXF.out.below hu).now)
        have hS0 : U2.cell? ⟨wr.heap.size, 0, none⟩ = some (.int .i64 3) ∧ U2.cell? ⟨wr.heap.size, 1, none⟩ = some (.int .i64 0) ∧ U2.cell? ⟨wr.heap.size, 2, none⟩ = some (.int .i64 0) ∧ U2.cell? ⟨wr.heap.size, 3, none⟩ = some (.slice A r.length cc) := ⟨HPW.out.at_.kind, HPW.out.at_.t, HPW.out.at_.i, HPW.out.at_.cut⟩
        have q0 := HRZ.out.at_.kind; have q1 := HRZ.out.at_.t; have q2 := HRZ.out.at_.i; have q3 := HRZ.out.at_.cut; have q4 := HRZ.out.f0; have q5 := HRZ.out.f1; have q6 := HRZ.out.f2; have q7 := HRZ.out.f3
        simp only [Nat.zero_add] at q1 q2 q3
        go_region_held3 (fun w' => w'.cell? ⟨wr.heap.size, 0, none⟩ = some (.int .i64 3) ∧ w'.cell? ⟨wr.heap.size, 1, none⟩ = some (.int .i64 0) ∧ w'.cell? ⟨wr.heap.size, 2, none⟩ = some (.int .i64 0) ∧ w'.cell? ⟨wr.heap.size, 3, none⟩ = some (.slice A r.length cc)) (first | exact hS0 | exact hS2 | exact far4 hne1 hS2)
          (first
          | (go_at_call 30; refine (RT.out _ (by repeat (first | exact Below.refl _ _ | refine bdrN ?_ _ | refine bdr ?_))).mono ?_; rintro e w2 ⟨rfl, hb2⟩; have hB2 : Below U2.heap.size U2 w2 := bt (by repeat (first | exact Below.refl _ _ | refine bdrN ?_ _ | refine bdr ?_)) hb2; have pp := HPW.out.below hB2 HLU.out; have qq := HRZ.out.below hB2 HLW.out; have hS2 : w2.cell? ⟨wr.heap.size, 0, none⟩ = some (.int .i64 3) ∧ w2.cell? ⟨wr.heap.size, 1, none⟩ = some (.int .i64 0) ∧ w2.cell? ⟨wr.heap.size, 2, none⟩ = some (.int .i64 0) ∧ w2.cell? ⟨wr.heap.size, 3, none⟩ = some (.slice A r.length cc) := ⟨pp.at_.kind, pp.at_.t, pp.at_.i, pp.at_.cut⟩; have s0 := qq.at_.kind; have s1 := qq.at_.t; have s2 := qq.at_.i; have s3 := qq.at_.cut; have s4 := qq.f0; have s5 := qq.f1; have s6 := qq.f2; have s7 := qq.f3; simp only [Nat.zero_add] at s1 s2 s3))
        all_goals
          go_wp2_with fail
          have hF : Below w.heap.size w w2 := bt (bt HBT.out HBW.out) hB2
          have hO : Off (Old w0.heap.size) w2 (fun u => Zs u (.slice A ns.length cc) ns) := by rw [HNL.out]; exact HXF.out.below hB2
          refine bodyPost_ret (v := .tuple #[.agg #[.int .i64 3, .int .i64 0, .int .i64 0, .slice A r.length cc], .bool (rightK ⟨3, 0, 0, ns⟩)]) (by simp [results, Tryz.results83, go_sem, World.cell?_setCell_other, World.cell?_setCell_same', s0, s1, s2, s3]; try rfl) rfl ?_
          rw [HR.out]
          exact ⟨A, cc, by show _ = Ending.returned (.tuple #[.agg #[_, _, _, .slice A ns.length cc], _]); rw [HNL.out], Off.mono (by repeat (first | exact hO | refine Off.setCell ?_ _ HS0.out _ | refine Off.drew ?_)) (fun k _ (h : k < w.heap.size) => Nat.lt_trans h HS0.out), (by repeat (first | exact hF | refine below_set ?_ (Nat.le_refl _) _ | refine bdr ?_))⟩
end Go.Proofs.YtcgcndmlgfnjbaaGreatDoor

/- The picks of a text: the reference's walk. -/
import Derived.Test.YtcgcndmlgfnjbaaGreatDoorSchL
import Derived.Test.YtcgcndmlgfnjbaaGreatDoorSchApp
namespace Go.Proofs.YtcgcndmlgfnjbaaGreatDoor
open Go Go.RowKit
set_option linter.unusedVariables false
/-- picks ahead of what is read -/
def preR (L : List Pk) : Except Nat (List Pk) → Except Nat (List Pk)
  | .ok l => .ok (L ++ l)
  | .error n => .error (L.length + n)
theorem preR_cons (L : List Pk) (p : Pk) (r : Except Nat (List Pk)) : preR L (consR p r) = preR (L ++ [p]) r := by
  cases r with
  | ok l => simp [preR, consR]
  | error n => simp [preR, consR]; omega
structure PS (d : List UInt8) (L : List Pk) (g j : Nat) : Prop where
  is : parG [] d = preR L (parG ((d.drop g).take (j - g)) (d.drop j))
  le : g ≤ j
  top : j ≤ d.length
  len : L.length ≤ g
theorem PS.zero (d : List UInt8) : PS d [] 0 0 := by
  refine ⟨?_, Nat.le_refl _, Nat.zero_le _, Nat.le_refl _⟩
  show _ = preR [] (parG [] d)
  cases parG [] d with
  | ok l => rfl
  | error n => simp [preR]
theorem PS.other {d : List UInt8} {L : List Pk} {g j : Nat} (h : PS d L g j) (hj : j < d.length) (hn : ¬ d[j] = 10) : PS d L g (j + 1) := by
  refine ⟨?_, by have := h.le; omega, hj, h.len⟩
  rw [h.is, List.drop_eq_getElem_cons hj, parG, if_neg hn, take_more d g j h.le hj]
theorem PS.line {d : List UInt8} {L : List Pk} {g j : Nat} (h : PS d L g j) (hj : j < d.length) (hn : d[j] = 10) (p : Pk) (hp : acceptK ((d.drop g).take (j - g)) = some p) : PS d (L ++ [p]) (j + 1) (j + 1) := by
  refine ⟨?_, Nat.le_refl _, hj, by rw [List.length_append]; have := h.len; have := h.le; simp; omega⟩
  rw [h.is, List.drop_eq_getElem_cons hj, parG, if_pos hn, hp]
  show preR L (consR p _) = _
  rw [preR_cons, Nat.sub_self, List.take_zero]
theorem PS.bad {d : List UInt8} {L : List Pk} {g j : Nat} (h : PS d L g j) (hj : j < d.length) (hn : d[j] = 10) (hp : acceptK ((d.drop g).take (j - g)) = none) : parG [] d = .error L.length := by
  rw [h.is, List.drop_eq_getElem_cons hj, parG, if_pos hn, hp]; rfl
theorem PS.rest {d : List UInt8} {L : List Pk} {g : Nat} (h : PS d L g d.length) (hg : g < d.length) : parG [] d = .error L.length := by
  rw [h.is, List.drop_length, parG, if_neg]
  · rfl
  · intro e
    have := congrArg List.length e
    rw [List.length_take, List.length_drop] at this
    simp at this; omega
theorem PS.fin {d : List UInt8} {L : List Pk} (h : PS d L d.length d.length) : parG [] d = .ok L := by
  rw [h.is, List.drop_length, parG, if_pos (by simp)]
  show Except.ok (L ++ []) = _
  rw [List.append_nil]
def parE : Except Nat (List Pk) → Int
  | .ok _ => 0
  | .error _ => 8
/-- what Parse tells -/
def ParPost (s : List UInt8) (w : World) (e : Ending) (w' : World) : Prop := ∃ v, e = .returned (.tuple #[v, .int .i64 (parseK s).2.1, .int .i64 (parseK s).2.2]) ∧ Off (Old w.heap.size) w' (fun u => Pks u v (parseK s).1) ∧ Below w.heap.size w w'
theorem off_pks_nil (S : Nat → Prop) (w : World) : Off S w (fun u => Pks u (.slice none 0 0) []) := fun _ _ _ => pks_nil _
theorem pick_one (l : List Pv) (h : ∀ x ∈ l, x.v.oneCell' = true) : ∀ u ∈ l.flatMap Pv.cells, u.oneCell' = true := by
  intro u hu
  obtain ⟨x, hx0, hx⟩ := List.mem_flatMap.1 hu
  simp only [Pv.cells, List.mem_cons, List.not_mem_nil, or_false] at hx
  rcases hx with rfl | rfl | rfl | rfl
  · rfl
  · rfl
  · rfl
  · exact h x hx0
theorem info_pick : (Tryz.prog.info? 48).map (fun i => (i.zero, i.size, i.bytes)) = some (some (.agg #[.int .i64 0, .int .i64 0, .int .i64 0, .slice none 0 0]), 4, 48) := by kernel_rfl
theorem sl_pick (w : World) (x : Pv) : SlN (w.alloc (.cells #[.int .i64 x.p.kind, .int .i64 x.p.t, .int .i64 x.p.i, x.v] 48)) (.slice (some ⟨w.heap.size, 0, none⟩) 1 1) 4 1 ([x].flatMap Pv.cells) := by
  have := sl_lit w (Pv.cells x) 48 4 1 1 rfl (Nat.le_refl _)
  rw [show [x].flatMap Pv.cells = Pv.cells x by simp]
  exact this
/-- picks in a row of the call's own -/
structure POwn (B : Nat) (w : World) (v : Value) (pl : List Pv) : Prop where
  own : w.ownsRow B 48 4 v pl.length (pl.flatMap Pv.cells)
  cuts : ∀ x ∈ pl, Off (ownS v) w (fun u => Zs u x.v x.p.cut)
theorem POwn.pks {B : Nat} {w : World} {v : Value} {pl : List Pv} (h : POwn B w v pl) : Pks w v (pl.map (·.p)) :=
  ⟨pl, rfl, sl_of_own h.own, fun x hx => (h.cuts x hx).now⟩
theorem POwn.below {B : Nat} {w w' : World} {v : Value} {pl : List Pv} (h : POwn B w v pl) (hb : Below w.heap.size w w') : POwn B w' v pl :=
  ⟨own_below h.own hb, fun x hx => (h.cuts x hx).below hb⟩
theorem POwn.app {B : Nat} {w w' : World} {v v' : Value} {pl : List Pv} (h : POwn B w v pl) (x : Pv) (hx : Off (ownS v) w (fun u => Zs u x.v x.p.cut)) (hown : w'.ownsRow B 48 4 v' (pl.length + 1) (pl.flatMap Pv.cells ++ [x].flatMap Pv.cells)) (hg : w.grownBy w' v.ownBlock) (hat : v'.ownBlock = v.ownBlock ∨ v'.ownBlock = some w.heap.size) : POwn B w' v' (pl ++ [x]) := by
  refine ⟨by rw [List.length_append, List.flatMap_append]; exact hown, fun y hy => ?_⟩
  rcases List.mem_append.1 hy with hy | hy
  · exact (h.cuts y hy).app hg hat
  · simp only [List.mem_cons, List.not_mem_nil, or_false] at hy
    subst hy
    exact hx.app hg hat
/-- the same, beside all that lay before -/
structure POF (B : Nat) (w : World) (v : Value) (pl : List Pv) : Prop where
  own : w.ownsRow B 48 4 v pl.length (pl.flatMap Pv.cells)
  cuts : ∀ x ∈ pl, Off (fun k => v.ownBlock = some k ∨ k < B) w (fun u => Zs u x.v x.p.cut)
theorem POF.offPks {B : Nat} {w : World} {v : Value} {pl : List Pv} (h : POF B w v pl) {C : Nat} (hC : C ≤ B) : Off (Old C) w (fun u => Pks u v (pl.map (·.p))) := fun u h1 h2 =>
  ⟨pl, rfl, (off_own h.own (fun k hk hS => by have := (h.own.lt k hk).1; unfold Old at hS; omega)) u h1 h2, fun x hx => ((h.cuts x hx).mono (S' := Old C) (fun k _ hk => .inr (by unfold Old at hk; omega))) u h1 h2⟩
theorem POF.below {B : Nat} {w w' : World} {v : Value} {pl : List Pv} (h : POF B w v pl) (hb : Below w.heap.size w w') : POF B w' v pl :=
  ⟨own_below h.own hb, fun x hx => (h.cuts x hx).below hb⟩
theorem POF.app {B : Nat} {w w' : World} {v v' : Value} {pl : List Pv} (h : POF B w v pl) (x : Pv) (hx : Off (fun k => v.ownBlock = some k ∨ k < B) w (fun u => Zs u x.v x.p.cut)) (hown : w'.ownsRow B 48 4 v' (pl.length + 1) (pl.flatMap Pv.cells ++ [x].flatMap Pv.cells)) (hg : w.grownBy w' v.ownBlock) (hat : v'.ownBlock = v.ownBlock ∨ v'.ownBlock = some w.heap.size) : POF B w' v' (pl ++ [x]) := by
  refine ⟨by rw [List.length_append, List.flatMap_append]; exact hown, fun y hy => ?_⟩
  rcases List.mem_append.1 hy with hy | hy
  · exact (h.cuts y hy).app2 hg hat
  · simp only [List.mem_cons, List.not_mem_nil, or_false] at hy
    subst hy
    exact hx.app2 hg hat
theorem accept_yes {y : List UInt8} (h : rightK (pickR (splitK y)) = true) : acceptK y = some (pickR (splitK y)) := by unfold acceptK; rw [if_pos h]
theorem accept_no {y : List UInt8} (h : rightK (pickR (splitK y)) = false) : acceptK y = none := by unfold acceptK; rw [if_neg (by rw [h]; decide)]
set_option maxRecDepth 100000 in
set_option maxHeartbeats 8000000 in
theorem rparseS_c (s : ByteArray) (hs : s.size ≤ 1000000) (w : World) :
    Calls Tryz.prog 68 #[.string s] w (ParPost s.data.toList w) := by
  obtain ⟨i0, hi0, hz0, hz1, hz2⟩ := info_parts info_pick
  have HE0 := Lib.hid (own_empty w 48 4 (by decide))
  have hsl : s.data.toList.length = s.size := by rw [Array.length_toList]; rfl
  have HSL := Lib.hid hsl
  unfold ParPost parseK
  rw [hsl]
  clear hsl
  by_cases hbig : s.size ≤ 100000
  · have hnb : ¬ ((100000 : Int) < (s.size : Int)) := by omega
    have hbi : (s.size : Int) ≤ 100000 := by omega
    rw [if_pos hbig]
    go_enter Tryz.func68, Tryz.ntmps68
    go_wp2_with fail
    go_loopw [5, 6, 7] (fun out f k wr => ∃ (g j : Nat) (pl : List Pv), PS s.data.toList (pl.map (·.p)) g j ∧ f = .int .i64 g ∧ k = .int .i64 j ∧ (∃ A c, out = .slice A pl.length c) ∧ POF w.heap.size wr out pl ∧ Below w.heap.size w wr) (fun _ _ k _ => s.size - (intOf k).toNat)
    case atStart => exact ⟨0, 0, [], PS.zero _, rfl, rfl, ⟨_, _, rfl⟩, ⟨HE0.out, by simp⟩, al _ _⟩
    case round =>
      obtain ⟨g, j, pl, hps, rfl, rfl, ⟨A, cc, rfl⟩, hown, hb⟩ := hrel
      have hg1 := hps.le
      have hj1 : j ≤ s.size := by have := hps.top; rw [HSL.out] at this; exact this
      have hml : pl.length ≤ g := by have := hps.len; rw [List.length_map] at this; exact this
      have HPS := Lib.hid hps
      have HOWN := Lib.hid hown
      have HB := Lib.hid hb
      have HSZ := Lib.hid hb.size
      have hj0 : (0 : Int) ≤ (j : Int) := Int.natCast_nonneg _
      have hg0 : (0 : Int) ≤ (g : Int) := Int.natCast_nonneg _
      have hgj : (g : Int) ≤ (j : Int) := by omega
      have hjs : (j : Int) ≤ (s.size : Int) := by omega
      have HML : Hid (pl.length ≤ 100000) := by show _ ≤ _; omega
      clear hps hown hb hml
      by_cases hjl : j < s.size
      · have hjl2 : (j : Int) < (s.size : Int) := by omega
        have HBY := Lib.hid (byte_at s j hjl)
        cases hv : (((s[j]'hjl).toNat : Int) == 10)
        · have hv' : (((s[j]'hjl).toNat : Int) != 10) = true := by unfold bne; rw [hv]; rfl
          have HN : Hid (¬ s.data.toList[j]'(by rw [HSL.out]; exact hjl) = 10) := by
            intro e
            rw [HBY.out] at e
            rw [e] at hv
            exact absurd hv (by decide)
          go_wp2_with fail
          go_roundw
          case rel => exact ⟨g, j + 1, pl, HPS.out.other _ HN.out, rfl, by go_num, ⟨A, cc, rfl⟩, HOWN.out, HB.out⟩
          case measure => simp [intOf]; omega
        · have hv' : (((s[j]'hjl).toNat : Int) != 10) = false := by unfold bne; rw [hv]; rfl
          have HN : Hid (s.data.toList[j]'(by rw [HSL.out]; exact hjl) = 10) := by
            show _ = _
            rw [HBY.out]
            have h1 : (s[j]'hjl).toNat = 10 := by rw [beq_iff_eq] at hv; omega
            exact UInt8.toNat_inj.1 h1
          have HPK : Hid (Calls Tryz.prog 83 #[.string (s.extract g j)] wr (RPickPost (pickR (splitK ((s.data.toList.drop g).take (j - g)))) wr)) := by
            have h := rpick_c (s.extract g j) (by rw [ByteArray.size_extract]; omega) wr
            rw [show (s.extract g j).data.toList = (s.data.toList.drop g).take (j - g) by rw [ext_mid, str_data]] at h
            exact h
          have HAY := Lib.hid (accept_yes (y := (s.data.toList.drop g).take (j - g)))
          have HAN := Lib.hid (accept_no (y := (s.data.toList.drop g).take (j - g)))
          have HLI : Hid (∀ p, acceptK ((s.data.toList.drop g).take (j - g)) = some p → PS s.data.toList (pl.map (·.p) ++ [p]) (j + 1) (j + 1)) := fun p hp => HPS.out.line _ HN.out p hp
          have HBD : Hid (acceptK ((s.data.toList.drop g).take (j - g)) = none → parG [] s.data.toList = .error pl.length) := fun hp => by
            have := HPS.out.bad _ HN.out hp
            rwa [List.length_map] at this
          generalize pickR (splitK ((s.data.toList.drop g).take (j - g))) = P at HPK HAY HAN
          cases hr : rightK P
          · have HER := Lib.hid (HBD.out (HAN.out hr))
            clear HAY HAN HLI HBD HPS
            have hPK : Calls Tryz.prog 83 #[.string (s.extract g j)] wr fun e w' => ∃ A c, e = .returned (.tuple #[pkV P (.slice A P.cut.length c), .bool false]) ∧ Below wr.heap.size wr w' := HPK.out.mono (fun e w' ⟨A, c, he, _, h2⟩ => ⟨A, c, by rw [he, hr], h2⟩)
            have HPK2 := Lib.hid hPK
            clear hr hPK HPK
            unfold pkV at HPK2
            go_wp2_with (first
              | (go_at_call 83; refine (HPK2.out).mono ?_; rintro e w2 ⟨A2, c2, rfl, hb2⟩))
            refine bodyPost_ret (v := .tuple #[.slice none 0 0, .int .i64 8, .int .i64 pl.length]) (by simp [results, Tryz.results68, go_sem]; try rfl) rfl ?_
            rw [HER.out]
            exact ⟨_, rfl, off_pks_nil _ _, (bt HB.out hb2).alloc (bt HB.out hb2).size _⟩
          · have HLI2 := Lib.hid (HLI.out _ (HAY.out hr))
            clear HAY HAN HLI HBD HPS
            have hPK : Calls Tryz.prog 83 #[.string (s.extract g j)] wr fun e w' => ∃ A c, e = .returned (.tuple #[pkV P (.slice A P.cut.length c), .bool true]) ∧ Off (Old wr.heap.size) w' (fun u => Zs u (.slice A P.cut.length c) P.cut) ∧ Below wr.heap.size wr w' := HPK.out.mono (fun e w' ⟨A, c, he, h1, h2⟩ => ⟨A, c, by rw [he, hr], h1, h2⟩)
            have HPK2 := Lib.hid hPK
            clear hr hPK HPK
            have HT4 : Hid (pl.length + 1 ≤ maxLen ∧ (pl.length + 1) * 48 ≤ 140737488355328) := by have := HML.out; show _ ∧ _; unfold maxLen; constructor <;> omega
            unfold pkV at HPK2
            go_wp2_with (first
              | (go_at_call 83; refine (HPK2.out).mono ?_; rintro e w2 ⟨A2, c2, rfl, hO2, hb2⟩; have hB3 := balloc (balloc hb2 (.cells #[.int .i64 P.kind, .int .i64 P.t, .int .i64 P.i, .slice A2 P.cut.length c2] 48)) (.cells #[.int .i64 P.kind, .int .i64 P.t, .int .i64 P.i, .slice A2 P.cut.length c2] 48))
              | (at_builtin; refine wpl_appO rfl _ _ 26 rfl w.heap.size 48 i0 _ 4 48 Tryz.underlying26 hi0 hz0 hz1 hz2 rfl (by decide) (.slice A pl.length cc) pl.length (pl.flatMap Pv.cells) rfl (HOWN.out.below hB3).own (.slice (some ⟨w2.heap.size + 1, 0, none⟩) 1 1) 1 ([(⟨P, .slice A2 P.cut.length c2⟩ : Pv)].flatMap Pv.cells) rfl (by have h := sl_pick (w2.alloc (.cells #[.int .i64 P.kind, .int .i64 P.t, .int .i64 P.i, .slice A2 P.cut.length c2] 48)) ⟨P, .slice A2 P.cut.length c2⟩; rw [World.size_alloc] at h; exact h) (pick_one _ (by simp [Value.oneCell'])) HT4.out.1 HT4.out.2 (Nat.le_trans HSZ.out hB3.size) ?_; intro v6 w6 hown6 hb6 hg6 hat6; obtain ⟨A6, c6, rfl⟩ := own_shape hown6; have hB6 := btB (bt HB.out hB3) hb6 (Nat.le_refl _)))
            go_roundw
            case rel =>
              refine ⟨j + 1, j + 1, pl ++ [⟨P, .slice A2 P.cut.length c2⟩], by rw [List.map_append]; exact HLI2.out, by go_num, by go_num, ⟨A6, c6, by rw [List.length_append]; rfl⟩, ?_, hB6⟩
              refine (HOWN.out.below hB3).app ⟨P, .slice A2 P.cut.length c2⟩ ?_ hown6 hg6 hat6
              refine ((hO2.below (al _ _)).below (al _ _)).mono (fun k _ hk => by
                rcases hk with hk | hk
                · exact (HOWN.out.own.lt k hk).2
                · exact Nat.lt_of_lt_of_le hk HSZ.out)
            case measure => simp [intOf]; omega
      · obtain rfl : j = s.size := by omega
        by_cases hgl : g < s.size
        · have hgl2 : (g : Int) < (s.size : Int) := by omega
          have HER : Hid (parG [] s.data.toList = .error pl.length) := by
            have h := HPS.out
            rw [← HSL.out] at h hgl
            have := h.rest hgl
            rwa [List.length_map] at this
          clear HPS
          go_wp2_with fail
          refine bodyPost_ret (v := .tuple #[.slice none 0 0, .int .i64 8, .int .i64 pl.length]) (by simp [results, Tryz.results68, go_sem]; try rfl) rfl ?_
          rw [HER.out]
          exact ⟨_, rfl, off_pks_nil _ _, HB.out⟩
        · obtain rfl : g = s.size := by omega
          have HER : Hid (parG [] s.data.toList = .ok (pl.map (·.p))) := by
            have h := HPS.out
            rw [← HSL.out] at h
            exact h.fin
          clear HPS
          go_wp2_with fail
          refine bodyPost_ret (v := .tuple #[.slice A pl.length cc, .int .i64 0, .int .i64 0]) (by simp [results, Tryz.results68, go_sem]; try rfl) rfl ?_
          rw [HER.out]
          exact ⟨_, rfl, HOWN.out.offPks (Nat.le_refl _), HB.out⟩
  · have hbi : (100000 : Int) < (s.size : Int) := by omega
    rw [if_neg hbig]
    go_enter Tryz.func68, Tryz.ntmps68
    go_wp2_with fail
    refine bodyPost_ret (v := .tuple #[.slice none 0 0, .int .i64 2, .int .i64 0]) (by simp [results, Tryz.results68, go_sem]; try rfl) rfl ?_
    exact ⟨_, rfl, off_pks_nil _ _, Below.refl _ _⟩
end Go.Proofs.YtcgcndmlgfnjbaaGreatDoor

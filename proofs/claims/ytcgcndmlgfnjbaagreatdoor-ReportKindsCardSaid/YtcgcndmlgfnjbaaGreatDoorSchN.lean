/- The lines of a text, one a round: strings.Lines' iterator, for every loop body that leaves its variable alone. -/
import Derived.Test.YtcgcndmlgfnjbaaGreatDoorSchK
import Derived.Test.YtcgcndmlgfnjbaaGreatDoorShelf
import Derived.RangeFuncNested
import Derived.RangeFuncBound
import Derived.RangeFuncCalls
import Derived.RangeFuncLeaves
import Derived.Shelf.Abstract
import Derived.Shelf.RegionOpen
import Derived.WalkKit
import Derived.OwnWalkIn
import Derived.TacticsInMore
import Derived.LoopNIn
import Derived.LoopIn
import Derived.RegionIn
namespace Go.Proofs.YtcgcndmlgfnjbaaGreatDoor
open Go Go.RowKit Go.Shelf
set_option linter.unusedVariables false
attribute [local go_sem] Oper.semAt_some
/-- the lines of a text, each with its end -/
def linesG : List UInt8 → List UInt8 → List (List UInt8)
  | cur, [] => if cur = [] then [] else [cur]
  | cur, c :: r => if c = 10 then (cur ++ [10]) :: linesG [] r else linesG (cur ++ [c]) r
def linesK (s : List UInt8) : List (List UInt8) := linesG [] s
theorem linesG_hit : ∀ (y cur r : List UInt8), 10 ∉ y → linesG cur (y ++ 10 :: r) = (cur ++ y ++ [10]) :: linesG [] r
  | [], cur, r, _ => by rw [List.nil_append, List.append_nil, linesG, if_pos rfl]
  | c :: y, cur, r, h => by
    have h1 : ¬ c = 10 := fun e => h (by simp [e])
    have h2 : 10 ∉ y := fun e => h (by simp [e])
    rw [List.cons_append, linesG, if_neg h1, linesG_hit y (cur ++ [c]) r h2]; simp
theorem linesG_miss : ∀ (y cur : List UInt8), 10 ∉ y → linesG cur y = if cur ++ y = [] then [] else [cur ++ y]
  | [], cur, _ => by rw [linesG, List.append_nil]
  | c :: y, cur, h => by
    have h1 : ¬ c = 10 := fun e => h (by simp [e])
    have h2 : 10 ∉ y := fun e => h (by simp [e])
    rw [linesG, if_neg h1, linesG_miss y (cur ++ [c]) h2]; simp
theorem idx_end : ∀ s : List UInt8, (Lib.indexByte s 10 = -1 ∧ 10 ∉ s) ∨ ∃ a b, s = a ++ 10 :: b ∧ 10 ∉ a ∧ Lib.indexByte s 10 = (a.length : Int)
  | [] => .inl ⟨by unfold Lib.indexByte; rfl, by simp⟩
  | c :: l => by
    by_cases hc : c = 10
    · subst hc
      exact .inr ⟨[], l, rfl, by simp, by unfold Lib.indexByte; simp⟩
    · rcases idx_end l with ⟨h1, h2⟩ | ⟨a, b, rfl, h2, h3⟩
      · refine .inl ⟨?_, by simp; exact ⟨fun e => hc e.symm, h2⟩⟩
        unfold Lib.indexByte
        rw [h1]; simp [hc]
      · refine .inr ⟨c :: a, b, rfl, by simp; exact ⟨fun e => hc e.symm, h2⟩, ?_⟩
        unfold Lib.indexByte
        rw [h3]
        have : ¬ ((a.length : Int) = -1) := by omega
        simp [hc, this]
/-- how much is left, read off the cell -/
def leftL (w : World) (b : Nat) : Nat := match w.cell? ⟨b, 0, none⟩ with
  | some (.string s) => s.size
  | _ => 0
theorem leftL_eq {w : World} {b : Nat} {s : ByteArray} (h : w.cell? ⟨b, 0, none⟩ = some (.string s)) : leftL w b = s.size := by unfold leftL; rw [h]
set_option maxRecDepth 100000 in
set_option maxHeartbeats 4000000 in
theorem lines1_in (n : Nat) (hn : 1 ≤ n) (l Bs : Nat) (s : List UInt8) (hs : s.length ≤ 1000000) (J Jx : List (List UInt8) → World → Prop)
    (hJ : ∀ pre W u, J pre W → J pre (W.setCell ⟨Bs, 0, none⟩ u)) (hJd : ∀ pre W, J pre W → J pre W.drew)
    (hY : ∀ pre x W, (pre ++ [x]) <+: linesK s → J pre W → YieldAt Fence.wide (n - 1) Tryz.prog l #[.string (str x)] W fun e W' =>
      (e = .returned (.bool true) ∧ J (pre ++ [x]) W' ∧ W'.cell? ⟨Bs, 0, none⟩ = W.cell? ⟨Bs, 0, none⟩ ∧ W'.frozen? ⟨Bs, 0, none⟩ = W.frozen? ⟨Bs, 0, none⟩) ∨ (e = .returned (.bool false) ∧ Jx (pre ++ [x]) W'))
    (W : World) (hc : W.cell? ⟨Bs, 0, none⟩ = some (.string (str s))) (hf : W.frozen? ⟨Bs, 0, none⟩ = false) (h0 : J [] W) :
    CallsIn Fence.wide n Tryz.prog 94 #[.func (.yield l) #[] #[], .pointer (some ⟨Bs, 0, none⟩)] W fun e W' => (∃ v, e = .returned v) ∧
      (J (linesK s) W' ∨ ∃ pre, pre <+: linesK s ∧ Jx pre W') := by
  refine callsIn_of_wp Tryz.func94 rfl trivial ?_ rfl
  simp only [Tryz.ntmps94, List.size_toArray, List.length_cons, List.length_nil, Nat.reduceAdd, Nat.reduceSub, Array.replicate_succ, Array.replicate_zero, List.push_toArray, List.append_toArray, List.nil_append, List.cons_append]
  gi_wp2
  gi_loopw [3] (fun _ wr => ∃ (pre : List (List UInt8)) (rest : List UInt8), linesK s = pre ++ linesK rest ∧ rest.length ≤ 1000000 ∧ wr.cell? ⟨Bs, 0, none⟩ = some (.string (str rest)) ∧ wr.frozen? ⟨Bs, 0, none⟩ = false ∧ J pre wr) (fun _ wr => leftL wr Bs)
  case atStart => exact ⟨[], s, rfl, hs, hc, hf, h0⟩
  case round =>
    obtain ⟨pre, rest, hpre, hlen, hcr, hfr, hjr⟩ := hrel
    have HPRE := Lib.hid hpre
    have HJR := Lib.hid hjr
    clear hc hf h0 hpre hjr
    by_cases hne : rest = []
    · subst hne
      gi_wp2
      go_end0
      refine ⟨⟨_, rfl⟩, .inl ?_⟩
      have := HPRE.out
      rw [show linesK [] = [] from rfl, List.append_nil] at this
      rw [this]; exact HJR.out
    · have hsz : 0 < (str rest).size := by rw [str_size]; exact List.length_pos_iff.2 hne
      rcases idx_end rest with ⟨hi, hno⟩ | ⟨a, b, rfl, hno, hi⟩
      · have HL : Hid (linesK rest = [rest]) := by show linesG [] rest = _; rw [linesG_miss _ _ hno, List.nil_append, if_neg hne]
        obtain ⟨fn, tmps, assign, body, hy, hR⟩ := hY pre rest (wr.setCell ⟨Bs, 0, none⟩ (.string ⟨#[]⟩)) (by rw [HPRE.out, HL.out]; exact List.prefix_refl _) (hJ _ _ _ HJR.out)
        have HR2 := Lib.hid hR
        clear hR hY
        have hib : Lib.indexByte (str rest).data.toList (10 : Int).toNat.toUInt8 = -1 := by rw [str_data]; exact hi
        have HIB : Hid (∀ u, CallsIn Fence.wide (n - 1) Tryz.prog 95 #[.string (str rest), .int .u8 10] u fun e w' => e = .returned (.int .i64 (-1)) ∧ w' = u) := fun u => by
          have := Tryz.strings_IndexByte (str rest) 10 u
          rw [hib] at this
          exact callsIn_wide.2 this
        clear hi hno hib
        gi_wp2_with (refine ⟨trivial, ?_⟩; gi_at_call 95; refine (HIB.out _).mono ?_; rintro e w' ⟨rfl, rfl⟩)
        refine HR2.out.mono ?_
        rintro e W3 (⟨rfl, hJ3, hc3, hf3⟩ | ⟨rfl, hJx3⟩)
        · have hc4 : W3.cell? ⟨Bs, 0, none⟩ = some (.string (str [])) := hc3.trans (World.cell?_setCell_same' _ _ _ (by rw [hcr]; rfl))
          have hf4 : W3.frozen? ⟨Bs, 0, none⟩ = false := by rw [hf3, World.frozen?_setCell]; exact hfr
          have HE : Hid (linesK s = (pre ++ [rest]) ++ linesK []) := by show _ = _; rw [HPRE.out, HL.out]; show _ = _ ++ []; rw [List.append_nil]
          gi_wp2
          go_roundw
          case rel => exact ⟨pre ++ [rest], [], HE.out, Nat.zero_le _, hc4, hf4, hJ3⟩
          case measure => rw [leftL_eq hc4, leftL_eq hcr, str_size, str_size]; exact List.length_pos_iff.2 hne
        · gi_wp2
          refine bodyPost_ret (results_none rfl _ _ _) rfl ?_
          exact ⟨⟨_, rfl⟩, .inr ⟨pre ++ [rest], by rw [HPRE.out, HL.out]; exact List.prefix_refl _, hJx3⟩⟩
      · have HL : Hid (linesK (a ++ 10 :: b) = (a ++ [10]) :: linesK b) := by show linesG [] _ = _; rw [linesG_hit _ _ _ hno, List.nil_append]; rfl
        have hx1 : (str (a ++ 10 :: b)).extract 0 (a.length + 1) = str (a ++ [10]) := by
          rw [ext_mid, str_data, List.drop_zero, Nat.sub_zero]
          congr 1
          rw [show a ++ 10 :: b = (a ++ [10]) ++ b by simp, List.take_left' (by simp)]
        have hx2 : (str (a ++ 10 :: b)).extract (a.length + 1) (str (a ++ 10 :: b)).size = str b := by
          rw [ext_end, str_data]
          congr 1
          rw [show a ++ 10 :: b = (a ++ [10]) ++ b by simp, List.drop_left' (by simp)]
        have hlb : b.length ≤ 1000000 := by simp only [List.length_append, List.length_cons] at hlen; omega
        have hll : (str b).size < (str (a ++ 10 :: b)).size := by rw [str_size, str_size]; simp only [List.length_append, List.length_cons]; omega
        have hal : (a.length : Int) + 1 ≤ ((str (a ++ 10 :: b)).size : Int) := by rw [str_size]; simp only [List.length_append, List.length_cons]; omega
        have ha0 : (0 : Int) ≤ (a.length : Int) := Int.natCast_nonneg _
        have hak : (a.length : Int) < ((str (a ++ 10 :: b)).size : Int) := by omega
        have ham0 : (a.length : Int) ≤ 1000000 := by simp only [List.length_append, List.length_cons] at hlen; omega
        have ha1 : (0 : Int) ≤ (a.length : Int) + 1 := by omega
        have ham : a.length ≤ 1000000 := by simp only [List.length_append, List.length_cons] at hlen; omega
        have hY2 := fun (U : World) (hU : J pre U) => hY pre (a ++ [10]) U (by rw [HPRE.out, HL.out]; exact ⟨linesK b, by simp⟩) hU
        have HY2 := Lib.hid hY2
        have hib : Lib.indexByte (str (a ++ 10 :: b)).data.toList (10 : Int).toNat.toUInt8 = (a.length : Int) := by rw [str_data]; exact hi
        have HIB : Hid (∀ u, CallsIn Fence.wide (n - 1) Tryz.prog 95 #[.string (str (a ++ 10 :: b)), .int .u8 10] u fun e w' => e = .returned (.int .i64 (a.length : Int)) ∧ w' = u) := fun u => by
          have := Tryz.strings_IndexByte (str (a ++ 10 :: b)) 10 u
          rw [hib] at this
          exact callsIn_wide.2 this
        have HHL : Hid (linesK s = (pre ++ [a ++ [10]]) ++ linesK b) := by show _ = _; rw [HPRE.out, HL.out]; simp
        clear hi hno hib hlen hY hY2 hne HL HPRE
        generalize str (a ++ 10 :: b) = S at hcr hsz hx1 hx2 hll hal hak HIB
        generalize a ++ [10] = X at hx1 HY2 HHL
        gi_wp2_with (refine ⟨trivial, ?_⟩; gi_at_call 95; refine (HIB.out _).mono ?_; rintro e w' ⟨rfl, rfl⟩)
        refine wpIn_wide.2 ?_
        go_region
        have HC5 : Hid ((w'.setCell ⟨Bs, 0, none⟩ (.string (str b))).drew.cell? ⟨Bs, 0, none⟩ = some (.string (str b))) := World.cell?_setCell_same' _ _ _ (by rw [hcr]; rfl)
        have HF5 : Hid ((w'.setCell ⟨Bs, 0, none⟩ (.string (str b))).drew.frozen? ⟨Bs, 0, none⟩ = false) := by
          show (w'.setCell ⟨Bs, 0, none⟩ (.string (str b))).frozen? ⟨Bs, 0, none⟩ = false
          rw [World.frozen?_setCell]; exact hfr
        obtain ⟨fn, tmps, assign, body, hy, hR⟩ := HY2.out _ (hJd _ _ (hJ _ _ (.string (str b)) HJR.out))
        have HR2 := Lib.hid hR
        have hms : leftL w' Bs = S.size := leftL_eq hcr
        have HMS := Lib.hid hms
        have HLL := Lib.hid hll
        clear hR hcr hfr hms hll HJR HY2
        gi_wp2
        refine HR2.out.mono ?_
        rintro e W3 (⟨rfl, hJ3, hc3, hf3⟩ | ⟨rfl, hJx3⟩)
        · have hc4 : W3.cell? ⟨Bs, 0, none⟩ = some (.string (str b)) := hc3.trans HC5.out
          have hf4 : W3.frozen? ⟨Bs, 0, none⟩ = false := hf3.trans HF5.out
          gi_wp2
          go_roundw
          case rel => exact ⟨pre ++ [X], b, HHL.out, hlb, hc4, hf4, hJ3⟩
          case measure => rw [leftL_eq hc4, HMS.out]; exact HLL.out
        · gi_wp2
          refine bodyPost_ret (results_none rfl _ _ _) rfl ?_
          exact ⟨⟨_, rfl⟩, .inr ⟨pre ++ [X], by rw [HHL.out]; exact List.prefix_append _ _, hJx3⟩⟩
end Go.Proofs.YtcgcndmlgfnjbaaGreatDoor

/- What any tokens' expression is, is as the document says: the walk. -/
import Derived.Test.YtahdfglelhdcnaaDoorCutA
namespace Go.Proofs.YtahdfglelhdcnaaDoor
open Go Go.RowKit
set_option linter.unusedVariables false
theorem sl_litT (w : World) (S : Obj) (x : Tok) : SlN ((w.alloc S).alloc (.cells #[.int .i64 x.kind, .string (str x.text), .int .i64 x.n, .int .i64 x.pos] 34)) (.slice (some ⟨w.heap.size + 1, 0, none⟩) 1 1) 4 1 ([x].flatMap Tok.cells) := by
  have := sl_lit (w.alloc S) (Tok.cells x) 34 4 1 1 rfl (Nat.le_refl _)
  rw [World.size_alloc] at this
  rw [show [x].flatMap Tok.cells = Tok.cells x by simp]
  exact this
/-- tokens whose texts are cut, and whose places are some others -/
def CutT (l m : List Tok) : Prop := m.length = l.length ∧ ∀ t ∈ m, t.text.length ≤ 40
set_option maxRecDepth 100000 in
set_option maxHeartbeats 8000000 in
theorem tokens_law (l : List Tok) (hl : l.length ≤ 9223372036854775807) (hn : ∀ x ∈ l, x.text.length ≤ 9223372036854775807) (v : Value) (i : Int) (w : World) (hv : Toks w v l) (hE : Env w) :
    Calls Tryd.prog 4 #[v, .int .i64 i] w (Yes w) := by
  obtain ⟨i0, hi0, hz0, hz1, hz2⟩ := info_parts info_tok
  obtain ⟨A0, c0, rfl, hc0⟩ := hv.shape
  have HV := Lib.hid hv
  have HE := Lib.hid hE
  have HE0 := Lib.hid (own_empty w 34 4 (by decide))
  clear hv hE
  go_enter Tryd.func4, Tryd.ntmps4
  go_wp2_with fail
  go_loopw [5, 6] (fun out k wr => ∃ (j : Nat) (m : List Tok), j ≤ l.length ∧ j ≤ 80 ∧ m.length = j ∧ k = .int .i64 j ∧ (∃ A c, out = .slice A j c) ∧ wr.ownsRow w.heap.size 34 4 out j (m.flatMap Tok.cells) ∧ (∀ t ∈ m, t.text.length ≤ 40) ∧ Below w.heap.size w wr) (fun _ k _ => 80 - (intOf k).toNat)
  case atStart => exact ⟨0, [], Nat.zero_le _, by omega, rfl, rfl, ⟨_, _, rfl⟩, HE0.out, by simp, al _ _⟩
  case round =>
    obtain ⟨j, m, hj, hj60, hmj, rfl, ⟨A, cc, rfl⟩, hown, hmt, hb⟩ := hrel
    have HOWN := Lib.hid hown
    have HMT := Lib.hid hmt
    have HB := Lib.hid hb
    have HSZ := Lib.hid hb.size
    have HMJ := Lib.hid hmj
    have hj0 : (0 : Int) ≤ (j : Int) := Int.natCast_nonneg _
    by_cases hjl : j < l.length ∧ j < 80
    · obtain ⟨hjl, hj6⟩ := hjl
      have hjl2 : (j : Int) < (l.length : Int) := by omega
      have hj62 : (j : Int) < 80 := by omega
      obtain ⟨b, off, c, hE0, hcc, hbt, hat⟩ := Toks.at_ (l := l) HV.out (by omega)
      cases hE0
      have x1 := hat j hjl
      have hx0 := (hb.cell (p := ⟨_, _, none⟩) hbt).trans x1.kind
      have hx1 := (hb.cell (p := ⟨_, _, none⟩) hbt).trans x1.text
      have hx2 := (hb.cell (p := ⟨_, _, none⟩) hbt).trans x1.n
      have hx3 := (hb.cell (p := ⟨_, _, none⟩) hbt).trans x1.pos
      have hnz := hn _ (List.getElem_mem hjl)
      have hsc := str_cut (l[j]).text
      have HT4 : Hid (j + 1 ≤ maxLen ∧ (j + 1) * 40 ≤ 140737488355328) := by show _ ∧ _; unfold maxLen; constructor <;> omega
      clear hb hat x1 hown hmt hmj
      generalize l[j] = x at hx0 hx1 hx2 hx3 hnz hsc
      have hzz : (str x.text).size ≤ 9223372036854775807 := by rw [str_size]; exact hnz
      go_wp2_with (first
        | (at_builtin; refine wpl_app rfl _ _ 22 rfl w.heap.size 34 i0 _ 4 40 Tryd.underlying22 hi0 hz0 hz1 hz2 rfl (by decide) (.slice A j cc) j (m.flatMap Tok.cells) rfl (own_below HOWN.out (balloc (al wr _) _)) (.slice (some ⟨wr.heap.size + 1, 0, none⟩) 1 1) 1 ([⟨x.kind, x.text.take 40, x.n, _⟩].flatMap Tok.cells) rfl (sl_litT wr _ ⟨x.kind, x.text.take 40, x.n, _⟩) (tok_one _) HT4.out.1 HT4.out.2 (Nat.le_trans HSZ.out (Nat.le_trans (al wr _).size (al _ _).size)) ?_; intro v6 w6 hown6 hb6; obtain ⟨A6, c6, rfl⟩ := own_shape hown6; have hB6 := btB (btB HB.out (balloc (al wr _) _) HSZ.out) hb6 (Nat.le_refl _)))
      go_roundw
      case rel =>
        have hq : ∃ q : Int, w6.ownsRow w.heap.size 34 4 (.slice A6 (j + 1) c6) (j + 1) ((m ++ [(⟨x.kind, x.text.take 40, x.n, q⟩ : Tok)]).flatMap Tok.cells) := by
          apply Exists.intro
          rw [List.flatMap_append]
          exact hown6
        obtain ⟨q, hq⟩ := hq
        refine ⟨j + 1, m ++ [⟨x.kind, x.text.take 40, x.n, q⟩], by omega, by omega, by simp [HMJ.out], by go_num, ⟨A6, c6, rfl⟩, hq, ?_, hB6⟩
        intro t ht
        rcases List.mem_append.1 ht with ht | ht
        · exact HMT.out t ht
        · simp only [List.mem_cons, List.not_mem_nil, or_false] at ht
          subst ht
          show (x.text.take 40).length ≤ 40
          rw [List.length_take]; omega
      case measure => simp [intOf]; omega
    · have HVM : Hid (Toks wr (.slice A j cc) m) := by
        have := sl_of_own hown
        show SlN _ _ 4 m.length _
        rw [hmj]
        exact this
      have hm1 : m.length ≤ 100000 := by omega
      have hm2 : ∀ t ∈ m, t.text.length ≤ 1000000 := fun t ht => by have := hmt t ht; omega
      have HP := Lib.hid (Parse_c m hm1 hm2 (.slice A j cc) i wr HVM.out (HE.out.below hb))
      have HRP : Hid (∀ u, Below wr.heap.size wr u → Calls Tryd.prog 12 #[.slice A j cc, .int .i64 i] u (ParsePost m i u)) := fun u hu => rParse_c m hm1 hm2 (.slice A j cc) i u (SlN.below HVM.out hu)
      have hl40 := parE_len m i
      unfold ParsePost at HP HRP
      generalize parE m i = R at HP HRP hl40
      obtain ⟨F, t2, er, pl⟩ := R
      simp only at HP HRP hl40
      have HSM : Hid (∀ u V V2, Nods u V F → Nods u V2 F → Calls Tryd.prog 14 #[V, V2, .bool true] u fun e w' => e = .returned (.bool true) ∧ Below u.heap.size u w') := fun u V V2 h1 h2 => by
        have := rsame_c F F (by omega) (by omega) V V2 true u h1 h2
        rw [sameE_refl] at this
        exact this
      clear hown hmt hmj hb hm1 hm2 HVM HMT HMJ HOWN
      have htest : ¬ ((j : Int) < (l.length : Int)) ∨ (((j : Int) < (l.length : Int)) ∧ ¬ ((j : Int) < 80)) := by omega
      rcases htest with h1 | ⟨h1, h2⟩
      all_goals
        clear hjl
        go_wp2_with (first
          | (go_at_call 13; refine (HP.out).mono ?_; rintro e w2 ⟨V2, rfl, hv2, hb2⟩; have hsh2 := Nods.shape hv2; obtain ⟨A2, c2, rfl, _⟩ := hsh2; have HN2 := Lib.hid hv2; have HB2 := Lib.hid hb2; clear hv2 hb2)
          | (go_at_call 12; refine (HRP.out _ HB2.out).mono ?_; rintro e w3 ⟨V3, rfl, hv3, hb3⟩; have hsh3 := Nods.shape hv3; obtain ⟨A3, c3, rfl, _⟩ := hsh3; have HN3 := Lib.hid hv3; have HM3 := Lib.hid (SlN.below HN2.out hb3); have HB3 := Lib.hid (bt (bt HB.out HB2.out) hb3); clear hv3 hb3)
          | (go_at_call 14; refine (HSM.out _ _ _ HM3.out HN3.out).mono ?_; rintro e w4 ⟨rfl, hb4⟩; have HB4 := Lib.hid (bt HB3.out hb4); clear hb4)
          | (go_at_call 15; refine (fixed_c _ (HE.out.below HB4.out)).mono ?_; rintro e w5 ⟨rfl, hb5⟩))
        go_ret
        exact ⟨rfl, bt HB4.out hb5⟩
end Go.Proofs.YtahdfglelhdcnaaDoor

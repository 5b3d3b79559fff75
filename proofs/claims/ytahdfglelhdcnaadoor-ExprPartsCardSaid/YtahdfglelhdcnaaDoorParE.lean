/- The reference's parser: what binds most. -/
import Derived.Test.YtahdfglelhdcnaaDoorParD
namespace Go.Proofs.YtahdfglelhdcnaaDoor
open Go Go.RowKit
set_option linter.unusedVariables false
set_option maxRecDepth 100000 in
set_option maxHeartbeats 1000000 in
/-- behind the last token -/
theorem rprime_out (l : List Tok) (hl : l.length ≤ 100000) (v : Value) (d : Int) (i : Nat) (u : World) (hv : Toks u v l) (hi : l.length ≤ i) :
    Calls Tryd.prog 50 #[v, .int .i64 i, .int .i64 d] u (RPost (.inr (6, placeE l i)) u) := by
  obtain ⟨Av, cv, hve, hcv⟩ := hv.shape
  subst hve
  have HB : Hid (∀ w', Toks w' (.slice Av l.length cv) l → Calls Tryd.prog 70 #[.slice Av l.length cv, .int .i64 i, .int .i64 6] w' fun e w2 => e = .returned (.agg #[.slice none 0 0, .int .i64 0, .int .i64 6, .int .i64 (placeE l i)]) ∧ Below w'.heap.size w' w2) := fun w' h => by
    have := rbad_c l hl i 6 _ w' h
    rw [if_pos hi] at this
    exact this
  have HV := Lib.hid hv
  have hd : decide ((l.length : Int) ≤ (i : Int)) = true := by simp; omega
  clear hv
  go_enter Tryd.func50, Tryd.ntmps50
  go_wp2_with (go_at_call 70; refine (HB.out _ (HV.out.below (al _ _))).mono ?_; rintro e w1 ⟨rfl, hb1⟩; obtain ⟨rl, r0, r1, r2, r3, rf0, rf1, rf2, rf3⟩ := (Blk4.new u _ _ _ _ _).below hb1)
  refine ret_read (.agg #[.slice none 0 0, .int .i64 0, .int .i64 6, .int .i64 (placeE l i)]) rfl ?_ ?_
  · exact ⟨below_set4 (bt (al _ _) hb1) (Nat.le_refl _) _ _ _ _, none, 0, 0, 0, 6, placeE l i, rfl, rfl, rfl, rfl, rfl⟩
  · simp [results, Tryd.results50, go_sem, r0, r1, r2, r3]
theorem isE_un {l : List Tok} {i : Nat} (h : isE l i [33] = true) : isE l i [45] = false ∧ isE l i [40] = false := by
  have ht := (isE_text h).1
  constructor
  · cases h2 : isE l i [45]
    · rfl
    · have := (isE_text h2).1; rw [ht] at this; cases this
  · cases h2 : isE l i [40]
    · rfl
    · have := (isE_text h2).1; rw [ht] at this; cases this
theorem isE_un2 {l : List Tok} {i : Nat} (h : isE l i [45] = true) : isE l i [33] = false ∧ isE l i [40] = false := by
  have ht := (isE_text h).1
  constructor
  · cases h2 : isE l i [33]
    · rfl
    · have := (isE_text h2).1; rw [ht] at this; cases this
  · cases h2 : isE l i [40]
    · rfl
    · have := (isE_text h2).1; rw [ht] at this; cases this
set_option maxRecDepth 100000 in
set_option maxHeartbeats 1000000 in
/-- too deep -/
theorem rprime_deep (l : List Tok) (hl : l.length ≤ 100000) (v : Value) (i : Nat) (u : World) (hv : Toks u v l) (hi : i < l.length) (hu : (unE l i || opE l i) = true) :
    Calls Tryd.prog 50 #[v, .int .i64 i, .int .i64 12] u (RPost (.inr (7, placeE l i)) u) := by
  obtain ⟨Av, cv, hve, hcv⟩ := hv.shape
  subst hve
  have HB : Hid (∀ w', Toks w' (.slice Av l.length cv) l → Calls Tryd.prog 70 #[.slice Av l.length cv, .int .i64 i, .int .i64 7] w' fun e w2 => e = .returned (.agg #[.slice none 0 0, .int .i64 0, .int .i64 7, .int .i64 (placeE l i)]) ∧ Below w'.heap.size w' w2) := fun w' h => by
    have := rbad_c l hl i 7 _ w' h
    rw [if_neg (by omega)] at this
    exact this
  have HI : ∀ (c : UInt8) (b : Bool), isE l i [c] = b → Hid (∀ w', Toks w' (.slice Av l.length cv) l → Calls Tryd.prog 52 #[.slice Av l.length cv, .int .i64 i, .string ⟨#[c]⟩] w' fun e w2 => e = .returned (.bool b) ∧ w' = w2) := fun c b hb w' h => by
    have := ris_c l (by omega) i [c] _ w' h
    unfold IsPost at this
    rw [hb] at this
    exact this
  have HV := Lib.hid hv
  have hd : decide ((l.length : Int) ≤ (i : Int)) = false := by simp; omega
  clear hv
  have hcase : (isE l i [33] = true ∧ isE l i [40] = false) ∨ (isE l i [33] = false ∧ isE l i [45] = true ∧ isE l i [40] = false) ∨ (isE l i [33] = false ∧ isE l i [45] = false ∧ isE l i [40] = true) := by
    cases h1 : isE l i [33]
    · cases h2 : isE l i [45]
      · refine .inr (.inr ⟨rfl, rfl, ?_⟩)
        simp only [unE, opE, h1, h2, Bool.false_or] at hu
        exact hu
      · exact .inr (.inl ⟨rfl, rfl, (isE_un2 h2).2⟩)
    · exact .inl ⟨rfl, (isE_un h1).2⟩
  rcases hcase with ⟨h33, h40⟩ | ⟨h33, h45, h40⟩ | ⟨h33, h45, h40⟩
  · have H33 := HI 33 _ h33
    have H40 := HI 40 _ h40
    clear HI h33 h40 hu
    go_enter Tryd.func50, Tryd.ntmps50
    go_wp2_with (first
      | (go_at_call 70; refine (HB.out _ (HV.out.below (al _ _))).mono ?_; rintro e w1 ⟨rfl, hb1⟩; obtain ⟨rl, r0, r1, r2, r3, rf0, rf1, rf2, rf3⟩ := (Blk4.new u _ _ _ _ _).below hb1)
      | (go_at_call_of 52 (Value.string ⟨#[33]⟩); refine (H33.out _ (HV.out.below (al _ _))).mono ?_; rintro e w' ⟨rfl, rfl⟩)
      | (go_at_call_of 52 (Value.string ⟨#[40]⟩); refine (H40.out _ (HV.out.below (al _ _))).mono ?_; rintro e w' ⟨rfl, rfl⟩))
    refine ret_read (.agg #[.slice none 0 0, .int .i64 0, .int .i64 7, .int .i64 (placeE l i)]) rfl ?_ ?_
    · exact ⟨below_set4 (bt (al _ _) hb1) (Nat.le_refl _) _ _ _ _, none, 0, 0, 0, 7, placeE l i, rfl, rfl, rfl, rfl, rfl⟩
    · simp [results, Tryd.results50, go_sem, r0, r1, r2, r3]
  all_goals
    have H33 := HI 33 _ h33
    have H45 := HI 45 _ h45
    have H40 := HI 40 _ h40
    clear HI h33 h40 h45 hu
    go_enter Tryd.func50, Tryd.ntmps50
    go_wp2_with (first
      | (go_at_call 70; refine (HB.out _ (HV.out.below (al _ _))).mono ?_; rintro e w1 ⟨rfl, hb1⟩; obtain ⟨rl, r0, r1, r2, r3, rf0, rf1, rf2, rf3⟩ := (Blk4.new u _ _ _ _ _).below hb1)
      | (go_at_call_of 52 (Value.string ⟨#[33]⟩); refine (H33.out _ (HV.out.below (al _ _))).mono ?_; rintro e w' ⟨rfl, rfl⟩)
      | (go_at_call_of 52 (Value.string ⟨#[45]⟩); refine (H45.out _ (HV.out.below (al _ _))).mono ?_; rintro e w' ⟨rfl, rfl⟩)
      | (go_at_call_of 52 (Value.string ⟨#[40]⟩); refine (H40.out _ (HV.out.below (al _ _))).mono ?_; rintro e w' ⟨rfl, rfl⟩))
    refine ret_read (.agg #[.slice none 0 0, .int .i64 0, .int .i64 7, .int .i64 (placeE l i)]) rfl ?_ ?_
    · exact ⟨below_set4 (bt (al _ _) hb1) (Nat.le_refl _) _ _ _ _, none, 0, 0, 0, 7, placeE l i, rfl, rfl, rfl, rfl, rfl⟩
    · simp [results, Tryd.results50, go_sem, r0, r1, r2, r3]
end Go.Proofs.YtahdfglelhdcnaaDoor
/- The reference's parser: what binds most, no sign. -/
namespace Go.Proofs.YtahdfglelhdcnaaDoor
open Go Go.RowKit
set_option linter.unusedVariables false
theorem nods_one (W : World) (x : Nod) : Nods (W.alloc (.cells #[.int .i64 x.op, .int .i64 x.n, .string (str x.name), .int .i64 x.pos] 30)) (.slice (some ⟨W.heap.size, 0, none⟩) 1 1) [x] :=
  sl_of_own (own_nod W W.heap.size (Nat.le_refl _) x)
theorem fresh_one (B b o n c : Nat) (h : B ≤ b) : Fresh B (.slice (some ⟨b, o, none⟩) n c) := fun ad m k e => by cases e; exact h
set_option maxRecDepth 100000 in
set_option maxHeartbeats 4000000 in
theorem rprime_base (l : List Tok) (hl : l.length ≤ 100000) (htx : ∀ t ∈ l, t.text.length ≤ 1000000) (v : Value) (d : Int) (i : Nat) (u : World) (hv : Toks u v l) (hi : i < l.length) (h33 : isE l i [33] = false) (h45 : isE l i [45] = false) (h40 : isE l i [40] = false) :
    Calls Tryd.prog 50 #[v, .int .i64 i, .int .i64 d] u (RPost (baseR l i) u) := by
  obtain ⟨bt0, offt, ct, rfl, hct, hbt, hatt⟩ := hv.at_ (by omega)
  have hat := hatt i hi
  have HTX : Hid ((tk l i).text.length ≤ 1000000) := by rw [tk_at hi]; exact htx _ (List.getElem_mem hi)
  rw [← tk_at hi] at hat
  have hk := hat.kind
  have hx := hat.text
  have hn := hat.n
  have hp := hat.pos
  clear hat hatt hct htx
  have HB : Hid (∀ w', Toks w' (.slice (some ⟨bt0, offt, none⟩) l.length ct) l → Calls Tryd.prog 70 #[.slice (some ⟨bt0, offt, none⟩) l.length ct, .int .i64 i, .int .i64 5] w' fun e w2 => e = .returned (.agg #[.slice none 0 0, .int .i64 0, .int .i64 5, .int .i64 (placeE l i)]) ∧ Below w'.heap.size w' w2) := fun w' h => by
    have := rbad_c l hl i 5 _ w' h
    rw [if_neg (by omega)] at this
    exact this
  have HI : ∀ (c : UInt8), isE l i [c] = false → Hid (∀ w', Toks w' (.slice (some ⟨bt0, offt, none⟩) l.length ct) l → Calls Tryd.prog 52 #[.slice (some ⟨bt0, offt, none⟩) l.length ct, .int .i64 i, .string ⟨#[c]⟩] w' fun e w2 => e = .returned (.bool false) ∧ w' = w2) := fun c hb w' h => by
    have := ris_c l (by omega) i [c] _ w' h
    unfold IsPost at this
    rw [hb] at this
    exact this
  have H33 := HI 33 h33
  have H45 := HI 45 h45
  have H40 := HI 40 h40
  have HV := Lib.hid hv
  have hd : decide ((l.length : Int) ≤ (i : Int)) = false := by simp; omega
  have HR : Hid (baseR l i = if (tk l i).kind = 2 then .inl (.leaf ⟨1, (tk l i).n, [], (tk l i).pos⟩, i + 1) else if (tk l i).kind = 1 ∧ nameE (tk l i).text = true then .inl (.leaf ⟨2, 0, (tk l i).text, (tk l i).pos⟩, i + 1) else .inr (5, placeE l i)) := rfl
  clear HI h33 h40 h45 hv
  generalize baseR l i = R at HR
  generalize tk l i = t at HTX hk hx hn hp HR
  by_cases hk2 : t.kind = 2
  · have hkk : (t.kind == 2) = true := by rw [beq_iff_eq]; exact hk2
    have HZ : Hid (R = .inl (.leaf ⟨1, t.n, [], t.pos⟩, i + 1)) := by show _ = _; rw [HR.out, if_pos hk2]
    clear HR
    go_enter Tryd.func50, Tryd.ntmps50
    go_wp2_with (first
      | (go_at_call_of 52 (Value.string ⟨#[33]⟩); refine (H33.out _ (HV.out.below (al _ _))).mono ?_; rintro e w' ⟨rfl, rfl⟩)
      | (go_at_call_of 52 (Value.string ⟨#[45]⟩); refine (H45.out _ (HV.out.below (al _ _))).mono ?_; rintro e w' ⟨rfl, rfl⟩)
      | (go_at_call_of 52 (Value.string ⟨#[40]⟩); refine (H40.out _ (HV.out.below (al _ _))).mono ?_; rintro e w' ⟨rfl, rfl⟩))
    go_region
    go_wp2_with fail
    refine ret_read (.agg #[.slice (some ⟨u.heap.size + 1, 0, none⟩) 1 1, .int .i64 ((i : Int) + 1), .int .i64 0, .int .i64 0]) rfl ?_ ?_
    · refine ⟨bdr (bt (al _ _) (al _ _)), some ⟨u.heap.size + 1, 0, none⟩, 1, 1, (i : Int) + 1, 0, 0, rfl, ?_⟩
      rw [HZ.out]
      refine ⟨rfl, rfl, rfl, ?_, fresh_one _ _ _ _ _ (Nat.le_succ _)⟩
      have := nods_one (u.alloc (.cells #[.slice (some ⟨u.heap.size + 1, 0, none⟩) 1 1, .int .i64 ((i : Int) + 1), .int .i64 0, .int .i64 0] 53)) ⟨1, t.n, [], t.pos⟩
      rw [World.size_alloc] at this
      exact this.below (bdr (Below.refl _ _))
    · simp [results, Tryd.results50, go_sem]
  · have hkk : (t.kind == 2) = false := by rw [beq_eq_false_iff_ne]; exact hk2
    by_cases hk1 : t.kind = 1
    · have hkk1 : (t.kind == 1) = true := by rw [beq_iff_eq]; exact hk1
      have HN : Hid (∀ w', Calls Tryd.prog 38 #[.string (str t.text)] w' (NamePost t.text w')) := fun w' => rname_c t.text HTX.out w'
      unfold NamePost at HN
      cases hnm : nameE t.text
      · have HZ : Hid (R = .inr (5, placeE l i)) := by show _ = _; rw [HR.out, if_neg hk2, if_neg (by rw [hnm]; simp)]
        rw [hnm] at HN
        clear HR hnm
        go_enter Tryd.func50, Tryd.ntmps50
        go_wp2_with (first
      | (go_at_call_of 52 (Value.string ⟨#[33]⟩); refine (H33.out _ (HV.out.below (al _ _))).mono ?_; rintro e w' ⟨rfl, rfl⟩)
      | (go_at_call_of 52 (Value.string ⟨#[45]⟩); refine (H45.out _ (HV.out.below (al _ _))).mono ?_; rintro e w' ⟨rfl, rfl⟩)
      | (go_at_call_of 52 (Value.string ⟨#[40]⟩); refine (H40.out _ (HV.out.below (al _ _))).mono ?_; rintro e w' ⟨rfl, rfl⟩)
          | (go_at_call 38; refine (HN.out _).mono ?_; rintro e w1 ⟨rfl, hb1⟩)
          | (go_at_call 70; refine (HB.out _ (HV.out.below (bt (al _ _) hb1))).mono ?_; rintro e w2 ⟨rfl, hb2⟩; obtain ⟨rl, r0, r1, r2, r3, rf0, rf1, rf2, rf3⟩ := ((Blk4.new u _ _ _ _ _).below hb1).below hb2))
        refine ret_read (.agg #[.slice none 0 0, .int .i64 0, .int .i64 5, .int .i64 (placeE l i)]) rfl ?_ ?_
        · refine ⟨below_set4 (bt (bt (al _ _) hb1) hb2) (Nat.le_refl _) _ _ _ _, none, 0, 0, 0, 5, placeE l i, rfl, ?_⟩
          rw [HZ.out]
          exact ⟨rfl, rfl, rfl, rfl⟩
        · simp [results, Tryd.results50, go_sem, r0, r1, r2, r3]
      · have HZ : Hid (R = .inl (.leaf ⟨2, 0, t.text, t.pos⟩, i + 1)) := by show _ = _; rw [HR.out, if_neg hk2, if_pos ⟨hk1, hnm⟩]
        rw [hnm] at HN
        clear HR hnm
        go_enter Tryd.func50, Tryd.ntmps50
        go_wp2_with (first
      | (go_at_call_of 52 (Value.string ⟨#[33]⟩); refine (H33.out _ (HV.out.below (al _ _))).mono ?_; rintro e w' ⟨rfl, rfl⟩)
      | (go_at_call_of 52 (Value.string ⟨#[45]⟩); refine (H45.out _ (HV.out.below (al _ _))).mono ?_; rintro e w' ⟨rfl, rfl⟩)
      | (go_at_call_of 52 (Value.string ⟨#[40]⟩); refine (H40.out _ (HV.out.below (al _ _))).mono ?_; rintro e w' ⟨rfl, rfl⟩)
          | (go_at_call 38; refine (HN.out _).mono ?_; rintro e w1 ⟨rfl, hb1⟩; have hB := bt (al _ _) hb1; obtain ⟨rl, r0, r1, r2, r3, rf0, rf1, rf2, rf3⟩ := ((Blk4.new u _ _ _ _ _).below hb1); replace hx := (hB.cell (p := ⟨_, _, none⟩) hbt).trans hx; replace hp := (hB.cell (p := ⟨_, _, none⟩) hbt).trans hp; replace hbt := Nat.lt_of_lt_of_le hbt hB.size))
        go_region
        go_wp2_with fail
        refine ret_read (.agg #[.slice (some ⟨w1.heap.size, 0, none⟩) 1 1, .int .i64 ((i : Int) + 1), .int .i64 0, .int .i64 0]) rfl ?_ ?_
        · have hS := below_set4 hB (Nat.le_refl _) (.slice (some ⟨w1.heap.size, 0, none⟩) 1 1) (.int .i64 ((i : Int) + 1)) (.int .i64 0) (.int .i64 0)
          refine ⟨bdr (hS.alloc hS.size _), some ⟨w1.heap.size, 0, none⟩, 1, 1, (i : Int) + 1, 0, 0, rfl, ?_⟩
          rw [HZ.out]
          refine ⟨rfl, rfl, rfl, ?_, fresh_one _ _ _ _ _ (Nat.le_of_lt rl)⟩
          have := nods_one ((((w1.setCell ⟨u.heap.size, 0, none⟩ (.slice (some ⟨w1.heap.size, 0, none⟩) 1 1)).setCell ⟨u.heap.size, 1, none⟩ (.int .i64 ((i : Int) + 1))).setCell ⟨u.heap.size, 2, none⟩ (.int .i64 0)).setCell ⟨u.heap.size, 3, none⟩ (.int .i64 0)) ⟨2, 0, t.text, t.pos⟩
          simp only [World.size_setCell] at this
          exact this.below (bdr (Below.refl _ _))
        · simp [results, Tryd.results50, go_sem, r0, r1, r2, r3, rl]
    · have hkk1 : (t.kind == 1) = false := by rw [beq_eq_false_iff_ne]; exact hk1
      have HZ : Hid (R = .inr (5, placeE l i)) := by show _ = _; rw [HR.out, if_neg hk2, if_neg (fun h => hk1 h.1)]
      clear HR
      go_enter Tryd.func50, Tryd.ntmps50
      go_wp2_with (first
      | (go_at_call_of 52 (Value.string ⟨#[33]⟩); refine (H33.out _ (HV.out.below (al _ _))).mono ?_; rintro e w' ⟨rfl, rfl⟩)
      | (go_at_call_of 52 (Value.string ⟨#[45]⟩); refine (H45.out _ (HV.out.below (al _ _))).mono ?_; rintro e w' ⟨rfl, rfl⟩)
      | (go_at_call_of 52 (Value.string ⟨#[40]⟩); refine (H40.out _ (HV.out.below (al _ _))).mono ?_; rintro e w' ⟨rfl, rfl⟩)
          | (go_at_call 70; refine (HB.out _ (HV.out.below (al _ _))).mono ?_; rintro e w2 ⟨rfl, hb2⟩; obtain ⟨rl, r0, r1, r2, r3, rf0, rf1, rf2, rf3⟩ := (Blk4.new u _ _ _ _ _).below hb2))
      refine ret_read (.agg #[.slice none 0 0, .int .i64 0, .int .i64 5, .int .i64 (placeE l i)]) rfl ?_ ?_
      · refine ⟨below_set4 (bt (al _ _) hb2) (Nat.le_refl _) _ _ _ _, none, 0, 0, 0, 5, placeE l i, rfl, ?_⟩
        rw [HZ.out]
        exact ⟨rfl, rfl, rfl, rfl⟩
      · simp [results, Tryd.results50, go_sem, r0, r1, r2, r3]
end Go.Proofs.YtahdfglelhdcnaaDoor
/- The reference's parser: what binds most, behind a sign of one. -/
namespace Go.Proofs.YtahdfglelhdcnaaDoor
open Go Go.RowKit
set_option linter.unusedVariables false
theorem own_one {w : World} {base : Nat} {v : Value} {nd : Nod} {x : Ex} (h : w.ownsRow base 30 4 v (1 + x.flat.length) (Nod.cells nd ++ x.flat.flatMap Nod.cells)) :
    Nods w v (Ex.one nd x).flat ∧ Fresh base v := by
  refine ⟨?_, Fresh.own h⟩
  have h2 := sl_of_own h
  have e1 : (Ex.one nd x).flat.length = 1 + x.flat.length := by simp only [Ex.flat, List.length_cons]; omega
  have e2 : (Ex.one nd x).flat.flatMap Nod.cells = Nod.cells nd ++ x.flat.flatMap Nod.cells := by simp [Ex.flat]
  show SlN w v 4 _ _
  rw [e1, e2]
  exact h2
theorem Blk4.set0 {w : World} {g : Nat} {a b c d : Value} (h : Blk4 w g a b c d) (a' : Value) : Blk4 (w.setCell ⟨g, 0, none⟩ a') g a' b c d := by
  obtain ⟨hl, h0, h1, h2, h3, f0, f1, f2, f3⟩ := h
  refine ⟨by simpa [World.setCell] using hl, ?_, ?_, ?_, ?_, ?_, ?_, ?_, ?_⟩ <;> simp [*, go_sem]
set_option maxRecDepth 100000 in
set_option maxHeartbeats 4000000 in
theorem rprime_un (l : List Tok) (hl : l.length ≤ 100000) (v : Value) (d k : Nat) (hd12 : d < 12) (i : Nat) (u : World) (hv : Toks u v l) (hi : i < l.length) (b33 : Bool) (h33 : isE l i [33] = b33) (h45 : isE l i [45] = !b33)
    (HP : ∀ (u : World), Toks u v l → Calls Tryd.prog 50 #[v, .int .i64 ((i : Int) + 1), .int .i64 ((d : Int) + 1)] u (RPost (prR l k (i + 1)) u)) :
    Calls Tryd.prog 50 #[v, .int .i64 i, .int .i64 d] u (RPost (prR l (k + 1) i) u) := by
  obtain ⟨i0, hi0, hz0, hz1, hz2⟩ := info_parts info_nod
  obtain ⟨bt0, offt, ct, rfl, hct, hbt, hatt⟩ := hv.at_ (by omega)
  have hat := hatt i hi
  rw [← tk_at hi] at hat
  have hx := hat.text
  have hp := hat.pos
  clear hat hatt hct
  have h40 : isE l i [40] = false := by
    cases b33
    · exact (isE_un2 h45).2
    · exact (isE_un h33).2
  have HI : ∀ (c : UInt8) (b : Bool), isE l i [c] = b → Hid (∀ w', Toks w' (.slice (some ⟨bt0, offt, none⟩) l.length ct) l → Calls Tryd.prog 52 #[.slice (some ⟨bt0, offt, none⟩) l.length ct, .int .i64 i, .string ⟨#[c]⟩] w' fun e w2 => e = .returned (.bool b) ∧ w' = w2) := fun c b hb w' h => by
    have := ris_c l (by omega) i [c] _ w' h
    unfold IsPost at this
    rw [hb] at this
    exact this
  have H33 := HI 33 _ h33
  have H45 := HI 45 _ h45
  have H40 := HI 40 _ h40
  have HV := Lib.hid hv
  have HPP := Lib.hid HP
  have hd : decide ((l.length : Int) ≤ (i : Int)) = false := by simp; omega
  have hd2 : ((d : Int) == 12) = false := by rw [beq_eq_false_iff_ne]; omega
  have hun : unE l i = true := by unfold unE; rw [h33, h45]; cases b33 <;> rfl
  have hR : prR l (k + 1) i = match prR l k (i + 1) with | .inr e => .inr e | .inl (x, to2) => .inl (.one ⟨if (tk l i).text = [45] then 3 else 4, 0, [], (tk l i).pos⟩ x, to2) := by
    rw [prR, if_neg (by omega), if_pos hun]
    cases prR l k (i + 1) <;> rfl
  have htt : (tk l i).text = if b33 then [33] else [45] := by
    cases b33
    · exact (isE_text h45).1
    · exact (isE_text h33).1
  have hst : ((str (tk l i).text).toList == [45]) = !b33 := by
    rw [htt]
    rw [str_toList]
    cases b33 <;> rfl
  have hif : (if (tk l i).text = [45] then (3 : Int) else 4) = if b33 then 4 else 3 := by
    rw [htt]; cases b33 <;> rfl
  rw [hif] at hR
  have HR := Lib.hid hR
  have hfw := prR_fwd l k
  have hgd := hfw.good (i + 1)
  have hbd := hfw.bad (i + 1)
  clear HI h33 h40 h45 hv HP hif htt hR hfw hun
  generalize prR l (k + 1) i = R at HR
  generalize (tk l i).text = tx at hx hst
  generalize (tk l i).pos = ps at hp HR
  cases hy : prR l k (i + 1) with
  | inr ep =>
    obtain ⟨ey, py⟩ := ep
    have he7 := hbd _ _ hy
    have hee : (ey == 0) = false := by rw [beq_eq_false_iff_ne]; omega
    have HZ : Hid (R = .inr (ey, py)) := by have := HR.out; rw [hy] at this; exact this
    rw [hy] at HPP
    clear hgd hbd hy he7 HR
    cases b33
    all_goals
      go_enter Tryd.func50, Tryd.ntmps50
      go_wp2_with (first
        | (go_at_call_of 52 (Value.string ⟨#[33]⟩); refine (H33.out _ (HV.out.below (al _ _))).mono ?_; rintro e w' ⟨rfl, rfl⟩)
        | (go_at_call_of 52 (Value.string ⟨#[45]⟩); refine (H45.out _ (HV.out.below (al _ _))).mono ?_; rintro e w' ⟨rfl, rfl⟩)
        | (go_at_call_of 52 (Value.string ⟨#[40]⟩); refine (H40.out _ (HV.out.below (al _ _))).mono ?_; rintro e w' ⟨rfl, rfl⟩)
        | (go_at_call 50; refine (HPP.out _ (HV.out.below (al _ _))).mono ?_; rintro e w1 ⟨hb1, A1, n1, c1, t1, e1, p1, rfl, hr1⟩; obtain ⟨hA1, rfl, rfl, rfl⟩ := hr1; cases hA1; obtain ⟨rl, r0, r1, r2, r3, rf0, rf1, rf2, rf3⟩ := (Blk4.new u _ _ _ _ _).below hb1))
      refine ret_read (.agg #[.slice none 0 0, .int .i64 0, .int .i64 e1, .int .i64 p1]) rfl ?_ ?_
      · have hS := below_set4 (bt (al _ _) hb1) (Nat.le_refl _) (.slice none 0 0) (.int .i64 0) (.int .i64 e1) (.int .i64 p1)
        refine ⟨hS.alloc hS.size _, none, 0, 0, 0, e1, p1, rfl, ?_⟩
        rw [HZ.out]
        exact ⟨rfl, rfl, rfl, rfl⟩
      · simp [results, Tryd.results50, go_sem, r0, r1, r2, r3, rl]
  | inl yt =>
    obtain ⟨x, t3⟩ := yt
    have hg := hgd _ _ hy
    have HZ : Hid (R = .inl (.one ⟨if b33 then 4 else 3, 0, [], ps⟩ x, t3)) := by have := HR.out; rw [hy] at this; exact this
    rw [hy] at HPP
    have HL1 : Hid (1 + x.flat.length ≤ maxLen ∧ (1 + x.flat.length) * 40 ≤ 140737488355328) := by show _ ∧ _; unfold maxLen; constructor <;> omega
    have HSZ : Hid (∀ (W : World) (O N : Obj), W.heap.size + 1 ≤ ((W.alloc O).alloc N).heap.size) := fun W O N => by rw [World.size_alloc, World.size_alloc]; omega
    have HOWN : Hid (∀ (o : Int) (W : World) (O : Obj), ((W.alloc O).alloc (.cells #[.int .i64 o, .int .i64 0, .string ⟨#[]⟩, .int .i64 ps] 30)).ownsRow (W.heap.size + 1) 30 4 (.slice (some ⟨W.heap.size + 1, 0, none⟩) 1 1) 1 (Nod.cells ⟨o, 0, [], ps⟩)) := fun o W O => by
      have := own_nod (W.alloc O) (W.heap.size + 1) (by rw [World.size_alloc]; exact Nat.le_refl _) ⟨o, 0, [], ps⟩
      rw [World.size_alloc] at this
      exact this
    clear hgd hbd hy HR hg
    cases b33
    all_goals
      go_enter Tryd.func50, Tryd.ntmps50
      go_wp2_with (first
        | (go_at_call_of 52 (Value.string ⟨#[33]⟩); refine (H33.out _ (HV.out.below (al _ _))).mono ?_; rintro e w' ⟨rfl, rfl⟩)
        | (go_at_call_of 52 (Value.string ⟨#[45]⟩); refine (H45.out _ (HV.out.below (al _ _))).mono ?_; rintro e w' ⟨rfl, rfl⟩)
        | (go_at_call_of 52 (Value.string ⟨#[40]⟩); refine (H40.out _ (HV.out.below (al _ _))).mono ?_; rintro e w' ⟨rfl, rfl⟩)
        | (go_at_call 50; refine (HPP.out _ (HV.out.below (al _ _))).mono ?_; rintro e w1 ⟨hb1, A1, n1, c1, t1, e1, p1, rfl, hr1⟩; obtain ⟨rfl, rfl, rfl, hnx, hfx⟩ := hr1; have hB := bt (al _ _) hb1; obtain ⟨rl, r0, r1, r2, r3, rf0, rf1, rf2, rf3⟩ := (Blk4.new u _ _ _ _ _).below hb1; replace hx := (hB.cell (p := ⟨_, _, none⟩) hbt).trans hx; replace hp := (hB.cell (p := ⟨_, _, none⟩) hbt).trans hp; replace hbt := Nat.lt_of_lt_of_le hbt hB.size)
        | (at_builtin; refine wpl_app rfl _ _ 24 rfl (w1.heap.size + 1) 30 i0 _ 4 40 Tryd.underlying24 hi0 hz0 hz1 hz2 rfl (by decide) _ 1 _ rfl (HOWN.out _ w1 _) _ x.flat.length _ rfl ((hnx.below (al _ _)).below (al _ _)) (nod_one _) HL1.out.1 HL1.out.2 (HSZ.out _ _ _) ?_; intro v6 w6 hown6 hb6; obtain ⟨A6, c6, rfl⟩ := own_shape hown6; obtain ⟨yl, y0, y1, y2, y3, yf0, yf1, yf2, yf3⟩ := (((Blk4.new w1 (.slice A1 n1 c1) (.int .i64 t3) (.int .i64 0) (.int .i64 0) 53).below (al _ _)).belowB hb6 (Nat.lt_succ_self _)); have hB6 : Below w1.heap.size w1 w6 := btB (bt (al _ _) (al _ _)) hb6 (Nat.le_succ _); clear r0 r1 r2 r3 rf0 rf1 rf2 rf3; have rlo := rl; obtain ⟨rl, r0, r1, r2, r3, rf0, rf1, rf2, rf3⟩ := ((Blk4.new u _ _ _ _ _).below hb1).below hB6))
      have hz := own_one hown6
      have hS := below_set4 (below_set (o := 0) (bt hB hB6) (Nat.le_of_lt rlo) (.slice A6 (1 + x.flat.length) c6)) (Nat.le_refl _) (.slice A6 (1 + x.flat.length) c6) (.int .i64 t3) (.int .i64 0) (.int .i64 0)
      refine ret_read (.agg #[.slice A6 (1 + x.flat.length) c6, .int .i64 t3, .int .i64 0, .int .i64 0]) rfl ?_ ?_
      · refine ⟨hS, A6, _, c6, t3, 0, 0, rfl, ?_⟩
        rw [HZ.out]
        refine ⟨rfl, rfl, rfl, ?_, hz.2.mono (by omega)⟩
        exact SlN.away4 (SlN.away hz.1 hz.2 (Nat.lt_succ_self _) 0 _) hz.2 (Nat.lt_succ_of_lt rlo) _ _ _ _
      · simp [results, Tryd.results50, go_sem, r0, r1, r2, r3]
end Go.Proofs.YtahdfglelhdcnaaDoor
/- The reference's parser: what binds most, within brackets. -/
namespace Go.Proofs.YtahdfglelhdcnaaDoor
open Go Go.RowKit
set_option linter.unusedVariables false
theorem Blk4.set1 {w : World} {g : Nat} {a b c d : Value} (h : Blk4 w g a b c d) (b' : Value) : Blk4 (w.setCell ⟨g, 1, none⟩ b') g a b' c d := by
  obtain ⟨hl, h0, h1, h2, h3, f0, f1, f2, f3⟩ := h
  refine ⟨by simpa [World.setCell] using hl, ?_, ?_, ?_, ?_, ?_, ?_, ?_, ?_⟩ <;> simp [*, go_sem]
set_option maxRecDepth 100000 in
set_option maxHeartbeats 4000000 in
theorem rprime_open (l : List Tok) (hl : l.length ≤ 100000) (v : Value) (d k : Nat) (hd12 : d < 12) (i : Nat) (u : World) (hv : Toks u v l) (hi : i < l.length) (h33 : isE l i [33] = false) (h45 : isE l i [45] = false) (h40 : isE l i [40] = true)
    (HF : ∀ (u : World), Toks u v l → Calls Tryd.prog 31 #[v, .int .i64 ((i : Int) + 1), .int .i64 ((d : Int) + 1), .int .i64 0] u (RPost (flR (prR l k) l 5 (i + 1)) u)) :
    Calls Tryd.prog 50 #[v, .int .i64 i, .int .i64 d] u (RPost (prR l (k + 1) i) u) := by
  obtain ⟨bt0, offt, ct, rfl, hct, hbt, hatt⟩ := hv.at_ (by omega)
  clear hatt hct
  have HI : ∀ (c : UInt8) (b : Bool), isE l i [c] = b → Hid (∀ w', Toks w' (.slice (some ⟨bt0, offt, none⟩) l.length ct) l → Calls Tryd.prog 52 #[.slice (some ⟨bt0, offt, none⟩) l.length ct, .int .i64 i, .string ⟨#[c]⟩] w' fun e w2 => e = .returned (.bool b) ∧ w' = w2) := fun c b hb w' h => by
    have := ris_c l (by omega) i [c] _ w' h
    unfold IsPost at this
    rw [hb] at this
    exact this
  have H33 := HI 33 _ h33
  have H45 := HI 45 _ h45
  have H40 := HI 40 _ h40
  have HV := Lib.hid hv
  have HPP := Lib.hid HF
  have hd : decide ((l.length : Int) ≤ (i : Int)) = false := by simp; omega
  have hd2 : ((d : Int) == 12) = false := by rw [beq_eq_false_iff_ne]; omega
  have hun : ¬ unE l i = true := by unfold unE; rw [h33, h45]; decide
  have hR : prR l (k + 1) i = match flR (prR l k) l 5 (i + 1) with | .inr e => .inr e | .inl (x, to2) => if isE l to2 [41] = true then .inl (x, to2 + 1) else .inr (if l.length ≤ to2 then 6 else 5, placeE l to2) := by
    rw [prR, if_neg (by omega), if_neg hun, if_pos (show opE l i = true from h40)]
    cases flR (prR l k) l 5 (i + 1) <;> rfl
  have HR := Lib.hid hR
  have hfw := flR_fwd (prR_fwd l k) 5
  have hgd := hfw.good (i + 1)
  have hbd := hfw.bad (i + 1)
  clear HI h33 h40 h45 hv HF hR hfw hun
  generalize prR l (k + 1) i = R at HR
  cases hy : flR (prR l k) l 5 (i + 1) with
  | inr ep =>
    obtain ⟨ey, py⟩ := ep
    have he7 := hbd _ _ hy
    have hee : (ey == 0) = false := by rw [beq_eq_false_iff_ne]; omega
    have HZ : Hid (R = .inr (ey, py)) := by have := HR.out; rw [hy] at this; exact this
    rw [hy] at HPP
    clear hgd hbd hy he7 HR
    go_enter Tryd.func50, Tryd.ntmps50
    go_wp2_with (first
        | (go_at_call_of 52 (Value.string ⟨#[33]⟩); refine (H33.out _ (HV.out.below (al _ _))).mono ?_; rintro e w' ⟨rfl, rfl⟩)
        | (go_at_call_of 52 (Value.string ⟨#[45]⟩); refine (H45.out _ (HV.out.below (al _ _))).mono ?_; rintro e w' ⟨rfl, rfl⟩)
        | (go_at_call_of 52 (Value.string ⟨#[40]⟩); refine (H40.out _ (HV.out.below (al _ _))).mono ?_; rintro e w' ⟨rfl, rfl⟩)
        | (go_at_call 31; refine (HPP.out _ (HV.out.below (al _ _))).mono ?_; rintro e w1 ⟨hb1, A1, n1, c1, t1, e1, p1, rfl, hr1⟩; obtain ⟨hA1, rfl, rfl, rfl⟩ := hr1; cases hA1; obtain ⟨rl, r0, r1, r2, r3, rf0, rf1, rf2, rf3⟩ := (Blk4.new u _ _ _ _ _).below hb1))
    refine ret_read (.agg #[.slice none 0 0, .int .i64 0, .int .i64 e1, .int .i64 p1]) rfl ?_ ?_
    · have hS := below_set4 (bt (al _ _) hb1) (Nat.le_refl _) (.slice none 0 0) (.int .i64 0) (.int .i64 e1) (.int .i64 p1)
      refine ⟨hS.alloc hS.size _, none, 0, 0, 0, e1, p1, rfl, ?_⟩
      rw [HZ.out]
      exact ⟨rfl, rfl, rfl, rfl⟩
    · simp [results, Tryd.results50, go_sem, r0, r1, r2, r3, rl]
  | inl yt =>
    obtain ⟨x, t3⟩ := yt
    have hg := hgd _ _ hy
    rw [hy] at HPP
    have HRR := HR.out
    rw [hy] at HRR
    have H41 : Hid (∀ w', Toks w' (.slice (some ⟨bt0, offt, none⟩) l.length ct) l → Calls Tryd.prog 52 #[.slice (some ⟨bt0, offt, none⟩) l.length ct, .int .i64 t3, .string ⟨#[41]⟩] w' fun e w2 => e = .returned (.bool (isE l t3 [41])) ∧ w' = w2) := fun w' h => ris_c l (by omega) t3 [41] _ w' h
    have HB : Hid (∀ w', Toks w' (.slice (some ⟨bt0, offt, none⟩) l.length ct) l → Calls Tryd.prog 70 #[.slice (some ⟨bt0, offt, none⟩) l.length ct, .int .i64 t3, .int .i64 5] w' fun e w2 => e = .returned (.agg #[.slice none 0 0, .int .i64 0, .int .i64 (if l.length ≤ t3 then 6 else 5), .int .i64 (placeE l t3)]) ∧ Below w'.heap.size w' w2) := fun w' h => rbad_c l hl t3 5 _ w' h
    have ht3 : (t3 : Int) ≤ 100000 := by omega
    cases h41 : isE l t3 [41]
    · have HZ : Hid (R = .inr (if l.length ≤ t3 then 6 else 5, placeE l t3)) := by show _ = _; rw [HRR]; show (if isE l t3 [41] = true then _ else _) = _; rw [h41]; rfl
      rw [h41] at H41
      clear hgd hbd hy HR hg HRR h41
      generalize (if l.length ≤ t3 then (6 : Int) else 5) = q at HB HZ
      go_enter Tryd.func50, Tryd.ntmps50
      go_wp2_with (first
        | (go_at_call_of 52 (Value.string ⟨#[33]⟩); refine (H33.out _ (HV.out.below (al _ _))).mono ?_; rintro e w' ⟨rfl, rfl⟩)
        | (go_at_call_of 52 (Value.string ⟨#[45]⟩); refine (H45.out _ (HV.out.below (al _ _))).mono ?_; rintro e w' ⟨rfl, rfl⟩)
        | (go_at_call_of 52 (Value.string ⟨#[40]⟩); refine (H40.out _ (HV.out.below (al _ _))).mono ?_; rintro e w' ⟨rfl, rfl⟩)
        | (go_at_call 31; refine (HPP.out _ (HV.out.below (al _ _))).mono ?_; rintro e w1 ⟨hb1, A1, n1, c1, t1, e1, p1, rfl, hr1⟩; obtain ⟨rfl, rfl, rfl, hnx, hfx⟩ := hr1; have hB := bt (al _ _) hb1)
        | (go_at_call_of 52 (Value.string ⟨#[41]⟩); refine (H41.out _ ((HV.out.below hB).below (al _ _))).mono ?_; rintro e w' ⟨rfl, rfl⟩)
        | (go_at_call 70; refine (HB.out _ ((HV.out.below hB).below (al _ _))).mono ?_; rintro e w5 ⟨rfl, hb5⟩; obtain ⟨rl, r0, r1, r2, r3, rf0, rf1, rf2, rf3⟩ := (((Blk4.new u _ _ _ _ _).below hb1).below (al _ _)).below hb5))
      refine ret_read (.agg #[.slice none 0 0, .int .i64 0, .int .i64 q, .int .i64 (placeE l t3)]) rfl ?_ ?_
      · refine ⟨below_set4 (bt (bt hB (al _ _)) hb5) (Nat.le_refl _) _ _ _ _, none, 0, 0, 0, q, placeE l t3, rfl, ?_⟩
        rw [HZ.out]
        exact ⟨rfl, rfl, rfl, rfl⟩
      · simp [results, Tryd.results50, go_sem, r0, r1, r2, r3]
    · have HZ : Hid (R = .inl (x, t3 + 1)) := by show _ = _; rw [HRR]; show (if isE l t3 [41] = true then _ else _) = _; rw [h41]; rfl
      rw [h41] at H41
      clear hgd hbd hy HR hg HRR h41
      go_enter Tryd.func50, Tryd.ntmps50
      go_wp2_with (first
        | (go_at_call_of 52 (Value.string ⟨#[33]⟩); refine (H33.out _ (HV.out.below (al _ _))).mono ?_; rintro e w' ⟨rfl, rfl⟩)
        | (go_at_call_of 52 (Value.string ⟨#[45]⟩); refine (H45.out _ (HV.out.below (al _ _))).mono ?_; rintro e w' ⟨rfl, rfl⟩)
        | (go_at_call_of 52 (Value.string ⟨#[40]⟩); refine (H40.out _ (HV.out.below (al _ _))).mono ?_; rintro e w' ⟨rfl, rfl⟩)
        | (go_at_call 31; refine (HPP.out _ (HV.out.below (al _ _))).mono ?_; rintro e w1 ⟨hb1, A1, n1, c1, t1, e1, p1, rfl, hr1⟩; obtain ⟨rfl, rfl, rfl, hnx, hfx⟩ := hr1; have hB := bt (al _ _) hb1; obtain ⟨rl, r0, r1, r2, r3, rf0, rf1, rf2, rf3⟩ := (Blk4.new u _ _ _ _ _).below hb1)
        | (go_at_call_of 52 (Value.string ⟨#[41]⟩); refine (H41.out _ ((HV.out.below hB).below (al _ _))).mono ?_; rintro e w' ⟨rfl, rfl⟩))
      have hS := below_set4 hB (Nat.le_refl _) (.slice A1 n1 c1) (.int .i64 ((t3 : Int) + 1)) (.int .i64 0) (.int .i64 0)
      refine ret_read (.agg #[.slice A1 n1 c1, .int .i64 ((t3 : Int) + 1), .int .i64 0, .int .i64 0]) rfl ?_ ?_
      · refine ⟨hS.alloc hS.size _, A1, _, c1, (t3 : Int) + 1, 0, 0, rfl, ?_⟩
        rw [HZ.out]
        rw [World.size_alloc] at hfx
        refine ⟨rfl, rfl, rfl, ?_, hfx.mono (Nat.le_succ _)⟩
        exact SlN.below (SlN.away4 hnx hfx (Nat.lt_succ_self _) _ _ _ _) (al _ _)
      · simp [results, Tryd.results50, go_sem, r0, r1, r2, r3, rl]
theorem rfloor_c (l : List Tok) (hl : l.length ≤ 100000) (v : Value) (k d : Nat) (hd : d + k = 12)
    (HP : ∀ (i : Nat) (u : World), Toks u v l → Calls Tryd.prog 50 #[v, .int .i64 i, .int .i64 d] u (RPost (prR l k i) u)) :
    ∀ (m n : Nat), m + n = 5 → ∀ (i : Nat) (u : World), Toks u v l → Calls Tryd.prog 31 #[v, .int .i64 i, .int .i64 d, .int .i64 n] u (RPost (flR (prR l k) l m i) u)
  | 0, n, hn, i, u, hv => by
    obtain rfl : n = 5 := by omega
    exact rfloor_zero l v k d hd HP i u hv
  | m + 1, n, hn, i, u, hv =>
    rfloor_succ l hl v k d m n hd hn (fun i u hu => rfloor_c l hl v k d hd HP m (n + 1) (by omega) i u hu) i u hv
theorem rprime_c (l : List Tok) (hl : l.length ≤ 100000) (htx : ∀ t ∈ l, t.text.length ≤ 1000000) (v : Value) :
    ∀ (k d : Nat), d + k = 12 → ∀ (i : Nat) (u : World), Toks u v l → Calls Tryd.prog 50 #[v, .int .i64 i, .int .i64 d] u (RPost (prR l k i) u)
  | 0, d, hd, i, u, hv => by
    obtain rfl : d = 12 := by omega
    by_cases hi : i < l.length
    · by_cases hu : (unE l i || opE l i) = true
      · have e : prR l 0 i = .inr (7, placeE l i) := by rw [prR, if_neg (by omega), if_pos hu]
        rw [e]
        exact rprime_deep l hl v i u hv hi hu
      · have e : prR l 0 i = baseR l i := by rw [prR, if_neg (by omega), if_neg hu]
        rw [e]
        simp only [unE, opE, Bool.or_eq_true, not_or, Bool.not_eq_true] at hu
        exact rprime_base l hl htx v _ i u hv hi hu.1.1 hu.1.2 hu.2
    · rw [prR_out (by omega)]
      exact rprime_out l hl v _ i u hv (by omega)
  | k + 1, d, hd, i, u, hv => by
    by_cases hi : i < l.length
    · have HP := rprime_c l hl htx v k (d + 1) (by omega)
      cases h33 : isE l i [33]
      · cases h45 : isE l i [45]
        · cases h40 : isE l i [40]
          · have e : prR l (k + 1) i = baseR l i := by rw [prR, if_neg (by omega), if_neg (by unfold unE; rw [h33, h45]; decide), if_neg (by unfold opE; rw [h40]; decide)]
            rw [e]
            exact rprime_base l hl htx v _ i u hv hi h33 h45 h40
          · exact rprime_open l hl v d k (by omega) i u hv hi h33 h45 h40 (fun u hu => rfloor_c l hl v k (d + 1) (by omega) HP 5 0 rfl (i + 1) u hu)
        · exact rprime_un l hl v d k (by omega) i u hv hi false h33 h45 (fun u hu => HP (i + 1) u hu)
      · exact rprime_un l hl v d k (by omega) i u hv hi true h33 (isE_un h33).1 (fun u hu => HP (i + 1) u hu)
    · rw [prR_out (by omega)]
      exact rprime_out l hl v _ i u hv (by omega)
/-- the reference's Floor at the first token's floor -/
theorem rparse_c (l : List Tok) (hl : l.length ≤ 100000) (htx : ∀ t ∈ l, t.text.length ≤ 1000000) (v : Value) (i : Nat) (u : World) (hv : Toks u v l) :
    Calls Tryd.prog 31 #[v, .int .i64 i, .int .i64 0, .int .i64 0] u (RPost (flR (prR l 12) l 5 i) u) :=
  rfloor_c l hl v 12 0 rfl (rprime_c l hl htx v 12 0 rfl) 5 0 rfl i u hv
end Go.Proofs.YtahdfglelhdcnaaDoor

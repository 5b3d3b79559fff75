/- The program's parser: what binds most, behind a sign of one. -/
import Derived.Test.YtahdfglelhdcnaaDoorPalG
namespace Go.Proofs.YtahdfglelhdcnaaDoor
open Go Go.RowKit
set_option linter.unusedVariables false
structure Bt (w : World) (g : Nat) (t : Tok) (wd : World) : Prop where
  box : wd.cell? ⟨w.heap.size, 0, none⟩ = some (.pointer (some ⟨g, 0, none⟩))
  tok : Blk4 wd (w.heap.size + 1) (.int .i64 t.kind) (.string (str t.text)) (.int .i64 t.n) (.int .i64 t.pos)
theorem Bt.below {w : World} {g : Nat} {t : Tok} {wd w' : World} (h : Bt w g t wd) (hb : Below wd.heap.size wd w') : Bt w g t w' := by
  have hlt := h.tok.lt
  exact ⟨(hb.cell (p := ⟨w.heap.size, 0, none⟩) (by show w.heap.size < _; omega)).trans h.box, h.tok.below hb⟩
theorem Blk4.keep {w w' : World} {g b : Nat} {x y z q : Value} (h : Blk4 w b x y z q) (hk : Keep g w w') (hne : b ≠ g) : Blk4 w' b x y z q := by
  have hlt := h.lt
  have hs := hk.size
  have hf : ∀ o, w'.frozen? ⟨b, o, none⟩ = w.frozen? ⟨b, o, none⟩ := fun o => World.frozen?_of_block (hk.block b hlt hne)
  exact ⟨by omega, (hk.cell (p := ⟨b, 0, none⟩) hlt hne).trans h.c0, (hk.cell (p := ⟨b, 1, none⟩) hlt hne).trans h.c1, (hk.cell (p := ⟨b, 2, none⟩) hlt hne).trans h.c2, (hk.cell (p := ⟨b, 3, none⟩) hlt hne).trans h.c3,
    (hf 0).trans h.f0, (hf 1).trans h.f1, (hf 2).trans h.f2, (hf 3).trans h.f3⟩
theorem Bt.keep {w : World} {g : Nat} {t : Tok} {wd w' : World} (h : Bt w g t wd) (hk : Keep g wd w') (hg : g < w.heap.size) : Bt w g t w' := by
  have hlt := h.tok.lt
  exact ⟨(hk.cell (p := ⟨w.heap.size, 0, none⟩) (by show w.heap.size < _; omega) (by show w.heap.size ≠ g; omega)).trans h.box, h.tok.keep hk (by omega)⟩
theorem Bt.belowB {w : World} {g : Nat} {t : Tok} {wd w' : World} (h : Bt w g t wd) (hb : Below (w.heap.size + 2) wd w') : Bt w g t w' :=
  ⟨(hb.cell (p := ⟨w.heap.size, 0, none⟩) (by show w.heap.size < _; omega)).trans h.box, h.tok.belowB hb (by omega)⟩
theorem own_at (W : World) (x : Nod) (b base : Nat) (hb : b = W.heap.size) (hbase : base ≤ W.heap.size) : (W.alloc (.cells #[.int .i64 x.op, .int .i64 x.n, .string (str x.name), .int .i64 x.pos] 30)).ownsRow base 30 4 (.slice (some ⟨b, 0, none⟩) 1 1) 1 (Nod.cells x) := by
  subst hb
  have := own_nod W base hbase x
  simpa using this
theorem own_cons {w : World} {base : Nat} {v : Value} {nd : Nod} {nl : List Nod} (h : w.ownsRow base 30 4 v (1 + nl.length) (Nod.cells nd ++ nl.flatMap Nod.cells)) :
    NodO w v (nd :: nl) ∧ Fresh base v := by
  refine ⟨⟨?_, Unf.own h⟩, Fresh.own h⟩
  have h2 := sl_of_own h
  have e1 : (nd :: nl).length = 1 + nl.length := by simp only [List.length_cons]; omega
  have e2 : (nd :: nl).flatMap Nod.cells = Nod.cells nd ++ nl.flatMap Nod.cells := by simp
  show SlN w v 4 _ _
  rw [e1, e2]
  exact h2
/-- what came back reads as nodes -/
theorem PVal.nods {l : List Tok} {i k : Nat} {r : Res} {w : World} {V : Value} {a e p : Int} (h : PVal l i k r w V a e p) (hg : ∀ x t, r = .inl (x, t) → x.flat.length ≤ l.length - i) :
    ∃ nl : List Nod, Nods w V nl ∧ nl.length ≤ l.length - i ∧ ∀ x t, r = .inl (x, t) → nl = x.flat := by
  unfold PVal at h
  split at h
  · rename_i x t
    exact ⟨_, h.2.2.2.nods, hg _ _ rfl, fun x2 t2 e => by cases e; rfl⟩
  · obtain ⟨_, _, _, _, gl, h5, h6⟩ := h
    exact ⟨gl, h5, h6, fun x2 t2 e => by cases e⟩
/-- a node ahead of what came back -/
def unR (nd : Nod) : Res → Res
  | .inl (x, t) => .inl (.one nd x, t)
  | .inr e => .inr e
theorem un_post {l : List Tok} {i k0 k : Nat} {nd : Nod} {r : Res} {w5 w6 : World} {V V6 : Value} {a e p : Int} (hi : i < l.length) (hk : k0 ≤ k) (h : PVal l (i + 1) k0 r w5 V a e p) {nl : List Nod} (hnl : nl.length ≤ l.length - (i + 1))
    (he : ∀ x t, r = .inl (x, t) → nl = x.flat) (h6 : NodO w6 V6 (nd :: nl)) : PVal l i k (unR nd r) w6 V6 a e p := by
  cases r with
  | inl q =>
    obtain ⟨x, t⟩ := q
    have hx := he x t rfl
    subst hx
    exact ⟨h.1, h.2.1, h.2.2.1, h6⟩
  | inr q =>
    obtain ⟨h1, h2, h3, h4, _⟩ := h
    exact ⟨h1, h2, h3, by omega, _, h6.nods, by simp only [List.length_cons]; omega⟩
set_option maxRecDepth 100000 in
set_option maxHeartbeats 16000000 in
theorem one_un (l : List Tok) (hl : l.length ≤ 100000) (g : Nat) (v : Value) (i : Nat) (d : Int) (w : World) (hp : Par w g v i d 0 0) (hc : Ctx g v l w) (hi : i < l.length) (k k0 : Nat) (hk0 : k0 ≤ k) (b33 : Bool) (h33 : isE l i [33] = b33) (h45 : isE l i [45] = !b33) (r : Res) (hgd : ∀ x t, r = .inl (x, t) → x.flat.length ≤ l.length - (i + 1))
    (HW : ∀ W, Keep g w W → Par W g v i d 0 0 → Calls Tryd.prog 72 #[.pointer (some ⟨g, 0, none⟩), .func (.func 55) #[.pointer (some ⟨g, 0, none⟩)] #[]] W (PPost l g v (i + 1) d k0 r W)) :
    Calls Tryd.prog 55 #[.pointer (some ⟨g, 0, none⟩)] w (PPost l g v i d k (unR ⟨if b33 then 4 else 3, 0, [], (tk l i).pos⟩ r) w) := by
  obtain ⟨i0, hi0, hz0, hz1, hz2⟩ := info_parts info_nod
  have hct := hc.now hp.lt
  obtain ⟨bt0, offt, ct, rfl, hcc, hbt, hatt⟩ := hct.at_ (by omega)
  have hat := hatt i hi
  rw [← tk_at hi] at hat
  have hk := hat.kind
  have hx := hat.text
  have hn := hat.n
  have hps := hat.pos
  clear hat hatt hcc hct
  have HT : Hid (∀ u, Keep g w u → Toks u (.slice (some ⟨bt0, offt, none⟩) l.length ct) l) := fun u hu => (hc.keep hu hp.lt).now (Nat.lt_of_lt_of_le hp.lt hu.size)
  have HI : ∀ (c : UInt8) (b : Bool), isE l i [c] = b → Hid (∀ u, Keep g w u → Calls Tryd.prog 58 #[.slice (some ⟨bt0, offt, none⟩) l.length ct, .int .i64 i, .string ⟨#[c]⟩] u fun e w' => e = .returned (.bool b) ∧ w' = u) := fun c b hb u hu => by
    have := is_c l (by omega) i [c] _ u (HT.out u hu)
    unfold IsPost at this
    rw [hb] at this
    exact this.mono fun _ _ ⟨h1, h2⟩ => ⟨h1, h2.symm⟩
  have hd0 : decide ((l.length : Int) ≤ (i : Int)) = false := by simp; omega
  have hd1 : decide (l.length ≤ i) = false := by simp; omega
  have HPA := Lib.hid hp
  have HCX := Lib.hid hc
  have hg1 : ¬ (g = w.heap.size + 1) := by have := hp.lt; omega
  have hg2 : ¬ (w.heap.size + 1 = g) := by have := hp.lt; omega
  have hg3 : ¬ (g = w.heap.size) := by have := hp.lt; omega
  have hg4 : ¬ (w.heap.size = g) := by have := hp.lt; omega
  obtain ⟨pl, p0, p1, p2, p3, p4, pf1, pf2, pf3, pf4⟩ := hp
  have H33 := HI 33 _ h33
  have H45 := HI 45 _ h45
  have HWI := Lib.hid HW
  have HGD := Lib.hid hgd
  have htt : (tk l i).text = if b33 then [33] else [45] := by
    cases b33
    · exact (isE_text h45).1
    · exact (isE_text h33).1
  have hst : ((str (tk l i).text).toList == [45]) = !b33 := by
    rw [htt, str_toList]
    cases b33 <;> rfl
  clear HI h33 h45 hc HW hgd htt
  generalize tk l i = t at hk hx hn hps hst
  have HLB : Hid (∀ n, n ≤ l.length - (i + 1) → 1 + n ≤ maxLen ∧ (1 + n) * 40 ≤ 140737488355328) := fun n h => by unfold maxLen; constructor <;> omega
  cases b33
  · show Calls _ _ _ _ (PPost l g _ i d k (unR ⟨3, 0, [], t.pos⟩ r) w)
    go_enter Tryd.func55, Tryd.ntmps55
    go_wp2_with fail
    go_quiet (fail)
    go_wp2_with fail
    go_region
    go_wp2_with fail
    go_quiet (first | (go_at_call_of 58 (Value.string ⟨#[33]⟩); refine (H33.out _ ?_).mono ?_; (repeat (first | exact Keep.refl _ _ | refine Keep.drewN ?_ _ | refine Keep.drew ?_ | refine Keep.alloc ?_ _)); rintro e w' ⟨he, hw⟩; exact ⟨he, _, hw⟩))
    go_wp2_with fail
    go_quiet (first | (go_at_call_of 58 (Value.string ⟨#[45]⟩); refine (H45.out _ ?_).mono ?_; (repeat (first | exact Keep.refl _ _ | refine Keep.drewN ?_ _ | refine Keep.drew ?_ | refine Keep.alloc ?_ _)); rintro e w' ⟨he, hw⟩; exact ⟨he, _, hw⟩))
    go_wp2_with fail
    generalize hwd : World.drewN (World.alloc (World.drewN (World.alloc w _) _) _) _ = wd
    have hbx : Bx w g (.slice (some ⟨bt0, offt, none⟩) l.length ct) i d t wd := by subst hwd; exact bx_made HPA.out t _ _
    clear hwd pl p0 p1 p2 p3 p4 pf1 pf2 pf3 pf4
    have HBX := Lib.hid hbx
    have HBT : Hid (Bt w g t wd) := ⟨hbx.box, hbx.tok⟩
    obtain ⟨hkp, hbox, ⟨tl, t0, t1, t2, t3, _, _, _, _⟩, ⟨pl, p0, p1, p2, p3, p4, pf1, pf2, pf3, pf4⟩⟩ := hbx
    have HKP := Lib.hid hkp
    clear hkp
    go_wp2_with fail
    go_region_held3 (fun w' => w'.cell? ⟨w.heap.size, 0, none⟩ = some (.pointer (some ⟨g, 0, none⟩)) ∧ w'.cell? ⟨w.heap.size + 1, 3, none⟩ = some (.int .i64 t.pos)) (first | exact ⟨by assumption, by assumption⟩ | go_keep)
      (first
        | (go_at_call 72; refine (HWI.out _ ?_ ?_).mono ?_; (repeat (first | exact HKP.out | refine Keep.drewN ?_ _ | refine Keep.drew ?_ | refine Keep.alloc ?_ _)); (repeat (first | exact HBX.out.par | refine Par.drewN ?_ _ | refine Par.drew ?_ | refine Par.below ?_ (al _ _))); rintro e w5 ⟨hk5, A5, n5, c5, a5, e5, p5, rfl, hp5, hf5, hv5⟩; have hbt5 := Bt.keep (Bt.below HBT.out (by repeat (first | exact Below.refl _ _ | refine bdrN ?_ _ | refine bdr ?_ | refine balloc ?_ _))) hk5 HPA.out.lt; have HBT5 := Lib.hid hbt5; obtain ⟨hbox5, ⟨_, _, _, _, hpos5, _, _, _, _⟩⟩ := hbt5; obtain ⟨nl, hnl, hnlen, hnle⟩ := hv5.nods HGD.out; have hkw5 : Keep g w w5 := Keep.trans (by repeat (first | exact HKP.out | refine Keep.drewN ?_ _ | refine Keep.drew ?_ | refine Keep.alloc ?_ _)) hk5; have hsz5 : w.heap.size + 2 ≤ w5.heap.size := HBT5.out.tok.lt)
        | (refine step_app (by rfl) _ _ 24 (by rfl) (w.heap.size + 2) 30 i0 _ 4 40 Tryd.underlying24 hi0 hz0 hz1 hz2 rfl (by decide) (.slice (some ⟨wd.heap.size, 0, none⟩) 1 1) 1 (Nod.cells ⟨3, 0, [], t.pos⟩) (by rfl) ?_ (.slice A5 n5 c5) nl.length (nl.flatMap Nod.cells) (by rfl) ?_ (nod_one nl) ?_ ?_ ?_ ?_; exact (own_below (own_keep (own_below (own_at wd ⟨3, 0, [], t.pos⟩ _ (w.heap.size + 2) rfl HBT.out.tok.lt) (by repeat (first | exact Below.refl _ _ | refine bdrN ?_ _ | refine bdr ?_ | refine balloc ?_ _))) (Nat.lt_succ_of_lt (Nat.lt_succ_of_lt HPA.out.lt)) hk5) (by repeat (first | exact Below.refl _ _ | refine bdrN ?_ _ | refine bdr ?_ | refine balloc ?_ _))); exact hnl.below (by repeat (first | exact Below.refl _ _ | refine bdrN ?_ _ | refine bdr ?_ | refine balloc ?_ _)); exact (HLB.out _ hnlen).1; exact (HLB.out _ hnlen).2; exact Nat.le_trans hsz5 (Below.size (w := w5) (B := w5.heap.size) (by repeat (first | exact Below.refl _ _ | refine bdrN ?_ _ | refine bdr ?_ | refine balloc ?_ _))); intro v6 w6 hown6 hb6; obtain ⟨A6, c6, rfl⟩ := own_shape hown6; have hkw6 := Keep.thenB (Keep.trans hkw5 (Keep.of (by repeat (first | exact Below.refl _ _ | refine bdrN ?_ _ | refine bdr ?_ | refine balloc ?_ _)))) (Below.mono hb6 (Nat.le_succ_of_le (Nat.le_succ _))); have hp6 := Par.belowB (Par.below hp5 (by repeat (first | exact Below.refl _ _ | refine bdrN ?_ _ | refine bdr ?_ | refine balloc ?_ _))) hb6 (Nat.lt_succ_of_lt (Nat.lt_succ_of_lt HPA.out.lt)); have hbt6 := Bt.belowB (Bt.below HBT5.out (by repeat (first | exact Below.refl _ _ | refine bdrN ?_ _ | refine bdr ?_ | refine balloc ?_ _))) hb6; obtain ⟨hbox6, ⟨_, _, _, _, hpos6, _, _, _, _⟩⟩ := hbt6)
        | (refine step_app (by rfl) _ _ 24 (by rfl) (w.heap.size + 2) 30 i0 _ 4 40 Tryd.underlying24 hi0 hz0 hz1 hz2 rfl (by decide) (.slice (some ⟨w5.heap.size, 0, none⟩) 1 1) 1 (Nod.cells ⟨3, 0, [], t.pos⟩) (by rfl) ?_ (.slice A5 n5 c5) nl.length (nl.flatMap Nod.cells) (by rfl) ?_ (nod_one nl) ?_ ?_ ?_ ?_; exact (own_below (own_at w5 ⟨3, 0, [], t.pos⟩ _ (w.heap.size + 2) rfl hsz5) (by repeat (first | exact Below.refl _ _ | refine bdrN ?_ _ | refine bdr ?_ | refine balloc ?_ _))); exact hnl.below (by repeat (first | exact Below.refl _ _ | refine bdrN ?_ _ | refine bdr ?_ | refine balloc ?_ _)); exact (HLB.out _ hnlen).1; exact (HLB.out _ hnlen).2; exact Nat.le_trans hsz5 (Below.size (w := w5) (B := w5.heap.size) (by repeat (first | exact Below.refl _ _ | refine bdrN ?_ _ | refine bdr ?_ | refine balloc ?_ _))); intro v6 w6 hown6 hb6; obtain ⟨A6, c6, rfl⟩ := own_shape hown6; have hkw6 := Keep.thenB (Keep.trans hkw5 (Keep.of (by repeat (first | exact Below.refl _ _ | refine bdrN ?_ _ | refine bdr ?_ | refine balloc ?_ _)))) (Below.mono hb6 (Nat.le_succ_of_le (Nat.le_succ _))); have hp6 := Par.belowB (Par.below hp5 (by repeat (first | exact Below.refl _ _ | refine bdrN ?_ _ | refine bdr ?_ | refine balloc ?_ _))) hb6 (Nat.lt_succ_of_lt (Nat.lt_succ_of_lt HPA.out.lt)); have hbt6 := Bt.belowB (Bt.below HBT5.out (by repeat (first | exact Below.refl _ _ | refine bdrN ?_ _ | refine bdr ?_ | refine balloc ?_ _))) hb6; obtain ⟨hbox6, ⟨_, _, _, _, hpos6, _, _, _, _⟩⟩ := hbt6))
    all_goals
      go_wp2_with fail
      go_ret
      exact ⟨hkw6, A6, _, c6, a5, e5, p5, rfl, hp6, ((own_cons hown6).2.mono (Nat.le_succ_of_le (Nat.le_succ _))), un_post hi hk0 hv5 hnlen hnle (own_cons hown6).1⟩
  · show Calls _ _ _ _ (PPost l g _ i d k (unR ⟨4, 0, [], t.pos⟩ r) w)
    go_enter Tryd.func55, Tryd.ntmps55
    go_wp2_with fail
    go_quiet (fail)
    go_wp2_with fail
    go_region
    go_wp2_with fail
    go_quiet (first | (go_at_call_of 58 (Value.string ⟨#[33]⟩); refine (H33.out _ ?_).mono ?_; (repeat (first | exact Keep.refl _ _ | refine Keep.drewN ?_ _ | refine Keep.drew ?_ | refine Keep.alloc ?_ _)); rintro e w' ⟨he, hw⟩; exact ⟨he, _, hw⟩))
    go_wp2_with fail
    generalize hwd : World.drewN (World.alloc (World.drewN (World.alloc w _) _) _) _ = wd
    have hbx : Bx w g (.slice (some ⟨bt0, offt, none⟩) l.length ct) i d t wd := by subst hwd; exact bx_made HPA.out t _ _
    clear hwd pl p0 p1 p2 p3 p4 pf1 pf2 pf3 pf4
    have HBX := Lib.hid hbx
    have HBT : Hid (Bt w g t wd) := ⟨hbx.box, hbx.tok⟩
    obtain ⟨hkp, hbox, ⟨tl, t0, t1, t2, t3, _, _, _, _⟩, ⟨pl, p0, p1, p2, p3, p4, pf1, pf2, pf3, pf4⟩⟩ := hbx
    have HKP := Lib.hid hkp
    clear hkp
    go_wp2_with fail
    go_region_held3 (fun w' => w'.cell? ⟨w.heap.size, 0, none⟩ = some (.pointer (some ⟨g, 0, none⟩)) ∧ w'.cell? ⟨w.heap.size + 1, 3, none⟩ = some (.int .i64 t.pos)) (first | exact ⟨by assumption, by assumption⟩ | go_keep)
      (first
        | (go_at_call 72; refine (HWI.out _ ?_ ?_).mono ?_; (repeat (first | exact HKP.out | refine Keep.drewN ?_ _ | refine Keep.drew ?_ | refine Keep.alloc ?_ _)); (repeat (first | exact HBX.out.par | refine Par.drewN ?_ _ | refine Par.drew ?_ | refine Par.below ?_ (al _ _))); rintro e w5 ⟨hk5, A5, n5, c5, a5, e5, p5, rfl, hp5, hf5, hv5⟩; have hbt5 := Bt.keep (Bt.below HBT.out (by repeat (first | exact Below.refl _ _ | refine bdrN ?_ _ | refine bdr ?_ | refine balloc ?_ _))) hk5 HPA.out.lt; have HBT5 := Lib.hid hbt5; obtain ⟨hbox5, ⟨_, _, _, _, hpos5, _, _, _, _⟩⟩ := hbt5; obtain ⟨nl, hnl, hnlen, hnle⟩ := hv5.nods HGD.out; have hkw5 : Keep g w w5 := Keep.trans (by repeat (first | exact HKP.out | refine Keep.drewN ?_ _ | refine Keep.drew ?_ | refine Keep.alloc ?_ _)) hk5; have hsz5 : w.heap.size + 2 ≤ w5.heap.size := HBT5.out.tok.lt)
        | (refine step_app (by rfl) _ _ 24 (by rfl) (w.heap.size + 2) 30 i0 _ 4 40 Tryd.underlying24 hi0 hz0 hz1 hz2 rfl (by decide) (.slice (some ⟨wd.heap.size, 0, none⟩) 1 1) 1 (Nod.cells ⟨4, 0, [], t.pos⟩) (by rfl) ?_ (.slice A5 n5 c5) nl.length (nl.flatMap Nod.cells) (by rfl) ?_ (nod_one nl) ?_ ?_ ?_ ?_; exact (own_below (own_keep (own_below (own_at wd ⟨4, 0, [], t.pos⟩ _ (w.heap.size + 2) rfl HBT.out.tok.lt) (by repeat (first | exact Below.refl _ _ | refine bdrN ?_ _ | refine bdr ?_ | refine balloc ?_ _))) (Nat.lt_succ_of_lt (Nat.lt_succ_of_lt HPA.out.lt)) hk5) (by repeat (first | exact Below.refl _ _ | refine bdrN ?_ _ | refine bdr ?_ | refine balloc ?_ _))); exact hnl.below (by repeat (first | exact Below.refl _ _ | refine bdrN ?_ _ | refine bdr ?_ | refine balloc ?_ _)); exact (HLB.out _ hnlen).1; exact (HLB.out _ hnlen).2; exact Nat.le_trans hsz5 (Below.size (w := w5) (B := w5.heap.size) (by repeat (first | exact Below.refl _ _ | refine bdrN ?_ _ | refine bdr ?_ | refine balloc ?_ _))); intro v6 w6 hown6 hb6; obtain ⟨A6, c6, rfl⟩ := own_shape hown6; have hkw6 := Keep.thenB (Keep.trans hkw5 (Keep.of (by repeat (first | exact Below.refl _ _ | refine bdrN ?_ _ | refine bdr ?_ | refine balloc ?_ _)))) (Below.mono hb6 (Nat.le_succ_of_le (Nat.le_succ _))); have hp6 := Par.belowB (Par.below hp5 (by repeat (first | exact Below.refl _ _ | refine bdrN ?_ _ | refine bdr ?_ | refine balloc ?_ _))) hb6 (Nat.lt_succ_of_lt (Nat.lt_succ_of_lt HPA.out.lt)); have hbt6 := Bt.belowB (Bt.below HBT5.out (by repeat (first | exact Below.refl _ _ | refine bdrN ?_ _ | refine bdr ?_ | refine balloc ?_ _))) hb6; obtain ⟨hbox6, ⟨_, _, _, _, hpos6, _, _, _, _⟩⟩ := hbt6)
        | (refine step_app (by rfl) _ _ 24 (by rfl) (w.heap.size + 2) 30 i0 _ 4 40 Tryd.underlying24 hi0 hz0 hz1 hz2 rfl (by decide) (.slice (some ⟨w5.heap.size, 0, none⟩) 1 1) 1 (Nod.cells ⟨4, 0, [], t.pos⟩) (by rfl) ?_ (.slice A5 n5 c5) nl.length (nl.flatMap Nod.cells) (by rfl) ?_ (nod_one nl) ?_ ?_ ?_ ?_; exact (own_below (own_at w5 ⟨4, 0, [], t.pos⟩ _ (w.heap.size + 2) rfl hsz5) (by repeat (first | exact Below.refl _ _ | refine bdrN ?_ _ | refine bdr ?_ | refine balloc ?_ _))); exact hnl.below (by repeat (first | exact Below.refl _ _ | refine bdrN ?_ _ | refine bdr ?_ | refine balloc ?_ _)); exact (HLB.out _ hnlen).1; exact (HLB.out _ hnlen).2; exact Nat.le_trans hsz5 (Below.size (w := w5) (B := w5.heap.size) (by repeat (first | exact Below.refl _ _ | refine bdrN ?_ _ | refine bdr ?_ | refine balloc ?_ _))); intro v6 w6 hown6 hb6; obtain ⟨A6, c6, rfl⟩ := own_shape hown6; have hkw6 := Keep.thenB (Keep.trans hkw5 (Keep.of (by repeat (first | exact Below.refl _ _ | refine bdrN ?_ _ | refine bdr ?_ | refine balloc ?_ _)))) (Below.mono hb6 (Nat.le_succ_of_le (Nat.le_succ _))); have hp6 := Par.belowB (Par.below hp5 (by repeat (first | exact Below.refl _ _ | refine bdrN ?_ _ | refine bdr ?_ | refine balloc ?_ _))) hb6 (Nat.lt_succ_of_lt (Nat.lt_succ_of_lt HPA.out.lt)); have hbt6 := Bt.belowB (Bt.below HBT5.out (by repeat (first | exact Below.refl _ _ | refine bdrN ?_ _ | refine bdr ?_ | refine balloc ?_ _))) hb6; obtain ⟨hbox6, ⟨_, _, _, _, hpos6, _, _, _, _⟩⟩ := hbt6))
    all_goals
      go_wp2_with fail
      go_ret
      exact ⟨hkw6, A6, _, c6, a5, e5, p5, rfl, hp6, ((own_cons hown6).2.mono (Nat.le_succ_of_le (Nat.le_succ _))), un_post hi hk0 hv5 hnlen hnle (own_cons hown6).1⟩
end Go.Proofs.YtahdfglelhdcnaaDoor

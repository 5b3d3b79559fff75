/- The program's parser: what binds most, within brackets. -/
import Derived.Test.YtahdfglelhdcnaaDoorPalI
namespace Go.Proofs.YtahdfglelhdcnaaDoor
open Go Go.RowKit
set_option linter.unusedVariables false
/-- what stands within brackets -/
def openR (l : List Tok) : Res → Res
  | .inl (x, t) => if isE l t [41] = true then .inl (x, t + 1) else .inr (if l.length ≤ t then 6 else 5, placeE l t)
  | .inr e => .inr e
set_option maxRecDepth 100000 in
set_option maxHeartbeats 16000000 in
theorem one_open (l : List Tok) (hl : l.length ≤ 100000) (g : Nat) (v : Value) (i : Nat) (d : Int) (w : World) (hp : Par w g v i d 0 0) (hc : Ctx g v l w) (hi : i < l.length) (k k0 : Nat) (hk0 : k0 + 1 ≤ k) (hk1 : k ≤ 1000) (h33 : isE l i [33] = false) (h45 : isE l i [45] = false) (h40 : isE l i [40] = true) (r : Res)
    (hgd : ∀ x t, r = .inl (x, t) → t ≤ l.length) (hbd : ∀ e p, r = .inr (e, p) → 1 ≤ e)
    (HW : ∀ W, Keep g w W → Par W g v i d 0 0 → W.cell? ⟨w.heap.size, 0, none⟩ = some (.pointer (some ⟨g, 0, none⟩)) → Calls Tryd.prog 72 #[.pointer (some ⟨g, 0, none⟩), .func (.func 73) #[] #[.pointer (some ⟨w.heap.size, 0, none⟩)]] W (PPost l g v (i + 1) d k0 r W)) :
    Calls Tryd.prog 55 #[.pointer (some ⟨g, 0, none⟩)] w (PPost l g v i d k (openR l r) w) := by
  have hct := hc.now hp.lt
  obtain ⟨bt0, offt, ct, rfl, hcc, hbt, hatt⟩ := hct.at_ (by omega)
  have hat := hatt i hi
  rw [← tk_at hi] at hat
  have hk := hat.kind
  have hx := hat.text
  have hn := hat.n
  have hps := hat.pos
  clear hat hatt hcc hct
  have HT : Hid (∀ u, Keep g w u → Toks u (.slice (some ⟨bt0, offt, none⟩) l.length ct) l) := fun u hu => (hc.keep hu hp.lt).now (Nat.lt_of_lt_of_le hp.lt hu.size)
  have HI : ∀ (c : UInt8) (b : Bool), isE l i [c] = b → Hid (∀ u, Keep g w u → Calls Tryd.prog 58 #[.slice (some ⟨bt0, offt, none⟩) l.length ct, .int .i64 i, .string ⟨#[c]⟩] u fun e w' => e = .returned (.bool b) ∧ w' = u) := fun c b hb u hu => by
    have := is_c l (by omega) i [c] _ u (HT.out u hu)
    unfold IsPost at this
    rw [hb] at this
    exact this.mono fun _ _ ⟨h1, h2⟩ => ⟨h1, h2.symm⟩
  have hd0 : decide ((l.length : Int) ≤ (i : Int)) = false := by simp; omega
  have hd1 : decide (l.length ≤ i) = false := by simp; omega
  have HPA := Lib.hid hp
  have HCX := Lib.hid hc
  have hg1 : ¬ (g = w.heap.size + 1) := by have := hp.lt; omega
  have hg2 : ¬ (w.heap.size + 1 = g) := by have := hp.lt; omega
  have hg3 : ¬ (g = w.heap.size) := by have := hp.lt; omega
  have hg4 : ¬ (w.heap.size = g) := by have := hp.lt; omega
  obtain ⟨pl, p0, p1, p2, p3, p4, pf1, pf2, pf3, pf4⟩ := hp
  have H33 := HI 33 _ h33
  have H45 := HI 45 _ h45
  have H40 := HI 40 _ h40
  have HWI := Lib.hid HW
  clear HI h33 h45 h40 hc HW
  generalize tk l i = t at hk hx hn hps
  cases r with
  | inr ep =>
    obtain ⟨ey, py⟩ := ep
    have he7 := hbd _ _ rfl
    have hee : (ey == 0) = false := by rw [beq_eq_false_iff_ne]; omega
    clear hgd hbd
    go_enter Tryd.func55, Tryd.ntmps55
    go_wp2_with fail
    go_quiet (fail)
    go_wp2_with fail
    go_region
    go_wp2_with fail
    go_quiet (first | (go_at_call_of 58 (Value.string ⟨#[33]⟩); refine (H33.out _ ?_).mono ?_; (repeat (first | exact Keep.refl _ _ | refine Keep.drewN ?_ _ | refine Keep.drew ?_ | refine Keep.alloc ?_ _)); rintro e w' ⟨he, hw⟩; exact ⟨he, _, hw⟩))
    go_wp2_with fail
    generalize hwd : World.drewN (World.alloc (World.drewN (World.alloc w _) _) _) _ = wd
    have hbx : Bx w g (.slice (some ⟨bt0, offt, none⟩) l.length ct) i d t wd := by subst hwd; exact bx_made HPA.out t _ _
    clear hwd pl p0 p1 p2 p3 p4 pf1 pf2 pf3 pf4
    have HBX := Lib.hid hbx
    have HBT : Hid (Bt w g t wd) := ⟨hbx.box, hbx.tok⟩
    obtain ⟨hkp, hbox, ⟨tl, t0, t1, t2, t3, _, _, _, _⟩, ⟨pl, p0, p1, p2, p3, p4, pf1, pf2, pf3, pf4⟩⟩ := hbx
    have HKP := Lib.hid hkp
    clear hkp
    go_quiet (first | (go_at_call_of 58 (Value.string ⟨#[45]⟩); refine (H45.out _ ?_).mono ?_; (repeat (first | exact HKP.out | refine Keep.drewN ?_ _ | refine Keep.drew ?_)); rintro e w' ⟨he, hw⟩; exact ⟨he, _, hw⟩))
    go_wp2_with fail
    go_quiet (first | (go_at_call_of 58 (Value.string ⟨#[40]⟩); refine (H40.out _ ?_).mono ?_; (repeat (first | exact HKP.out | refine Keep.drewN ?_ _ | refine Keep.drew ?_)); rintro e w' ⟨he, hw⟩; exact ⟨he, _, hw⟩))
    go_wp2_with (go_at_call 72; refine (HWI.out _ ?_ ?_ ?_).mono ?_; (repeat (first | exact HKP.out | refine Keep.drewN ?_ _ | refine Keep.drew ?_ | refine Keep.alloc ?_ _)); (repeat (first | exact HBX.out.par | refine Par.drewN ?_ _ | refine Par.drew ?_ | refine Par.below ?_ (al _ _))); exact (Bt.below HBT.out (by repeat (first | exact Below.refl _ _ | refine bdrN ?_ _ | refine bdr ?_ | refine balloc ?_ _))).box; rintro e w5 ⟨hk5, A5, n5, c5, a5, e5, p5, rfl, hp5, hf5, hv5⟩; have hbt5 := Bt.keep (Bt.below HBT.out (by repeat (first | exact Below.refl _ _ | refine bdrN ?_ _ | refine bdr ?_ | refine balloc ?_ _))) hk5 HPA.out.lt; have hkw5 : Keep g w w5 := Keep.trans (by repeat (first | exact HKP.out | refine Keep.drewN ?_ _ | refine Keep.drew ?_ | refine Keep.alloc ?_ _)) hk5; clear hbox tl t0 t1 t2 t3 pl p0 p1 p2 p3 p4 pf1 pf2 pf3 pf4; have hbox := hbt5.box; have HP5 := Lib.hid hp5; obtain ⟨rfl, rfl, ha5, hb5, gl, hgl, hgll⟩ := hv5; obtain ⟨m5, rfl⟩ := Int.eq_ofNat_of_zero_le ha5; have hm5 : (m5 : Int) ≤ 200000 := (by omega); obtain ⟨pl, p0, p1, p2, p3, p4, pf1, pf2, pf3, pf4⟩ := hp5)
    go_quiet (fail)
    go_wp2_with fail
    go_ret
    have hwl := HPA.out.lt
    refine ⟨Keep.set ?_ _ _, A5, n5, c5, (m5 : Int) + 1, e5, p5, rfl, Par.set1 (i := m5) ?_ _, hf5.mono ?_, rfl, rfl, by omega, by omega, gl, SlN.keep (B := w.heap.size) hgl (hf5.mono ?_) hwl (Keep.set ?_ _ _), by omega⟩
    · (repeat (first | exact hkw5 | refine Keep.drewN ?_ _ | refine Keep.drew ?_ | refine Keep.alloc ?_ _))
    · (repeat (first | exact HP5.out | refine Par.drewN ?_ _ | refine Par.drew ?_))
    · exact (Keep.size (g := g) (by repeat (first | exact HKP.out | refine Keep.drewN ?_ _ | refine Keep.drew ?_ | refine Keep.alloc ?_ _)))
    · exact (Keep.size (g := g) (by repeat (first | exact HKP.out | refine Keep.drewN ?_ _ | refine Keep.drew ?_ | refine Keep.alloc ?_ _)))
    · (repeat (first | exact Keep.refl _ _ | refine Keep.drewN ?_ _ | refine Keep.drew ?_))
  | inl q =>
    obtain ⟨x, t5⟩ := q
    have hgt := hgd _ _ rfl
    have ht5 : (t5 : Int) ≤ 200000 := by omega
    have HI41 : Hid (∀ u, Keep g w u → Calls Tryd.prog 58 #[.slice (some ⟨bt0, offt, none⟩) l.length ct, .int .i64 t5, .string ⟨#[41]⟩] u fun e w' => e = .returned (.bool (isE l t5 [41])) ∧ w' = u) := fun u hu => by
      have := is_c l (by omega) t5 [41] _ u (HT.out u hu)
      unfold IsPost at this
      exact this.mono fun _ _ ⟨h1, h2⟩ => ⟨h1, h2.symm⟩
    have HWR : Hid (∀ u, Keep g w u → Par u g (.slice (some ⟨bt0, offt, none⟩) l.length ct) t5 d 0 0 → Calls Tryd.prog 71 #[.pointer (some ⟨g, 0, none⟩), .int .i64 5] u fun e w' => e = .returned (.slice none 0 0) ∧ Keep g u w' ∧ Par w' g (.slice (some ⟨bt0, offt, none⟩) l.length ct) t5 d (if l.length ≤ t5 then 6 else 5) (placeE l t5)) := fun u hu hpu => by
      have := wrong_c l hl g _ t5 d 5 u hpu (HCX.out.keep hu HPA.out.lt)
      rw [show (if l.length ≤ t5 ∧ (5 : Int) = 5 then (6 : Int) else 5) = (if l.length ≤ t5 then 6 else 5) by simp] at this
      exact this
    cases h41 : isE l t5 [41]
    · have hO : openR l (.inl (x, t5)) = .inr (if l.length ≤ t5 then 6 else 5, placeE l t5) := by unfold openR; simp only [h41]; rfl
      rw [hO]
      rw [h41] at HI41
      clear hgd hbd h41 hO
      generalize (if l.length ≤ t5 then (6 : Int) else 5) = q at HWR
      go_enter Tryd.func55, Tryd.ntmps55
      go_wp2_with fail
      go_quiet (fail)
      go_wp2_with fail
      go_region
      go_wp2_with fail
      go_quiet (first | (go_at_call_of 58 (Value.string ⟨#[33]⟩); refine (H33.out _ ?_).mono ?_; (repeat (first | exact Keep.refl _ _ | refine Keep.drewN ?_ _ | refine Keep.drew ?_ | refine Keep.alloc ?_ _)); rintro e w' ⟨he, hw⟩; exact ⟨he, _, hw⟩))
      go_wp2_with fail
      generalize hwd : World.drewN (World.alloc (World.drewN (World.alloc w _) _) _) _ = wd
      have hbx : Bx w g (.slice (some ⟨bt0, offt, none⟩) l.length ct) i d t wd := by subst hwd; exact bx_made HPA.out t _ _
      clear hwd pl p0 p1 p2 p3 p4 pf1 pf2 pf3 pf4
      have HBX := Lib.hid hbx
      have HBT : Hid (Bt w g t wd) := ⟨hbx.box, hbx.tok⟩
      obtain ⟨hkp, hbox, ⟨tl, t0, t1, t2, t3, _, _, _, _⟩, ⟨pl, p0, p1, p2, p3, p4, pf1, pf2, pf3, pf4⟩⟩ := hbx
      have HKP := Lib.hid hkp
      clear hkp
      go_quiet (first | (go_at_call_of 58 (Value.string ⟨#[45]⟩); refine (H45.out _ ?_).mono ?_; (repeat (first | exact HKP.out | refine Keep.drewN ?_ _ | refine Keep.drew ?_)); rintro e w' ⟨he, hw⟩; exact ⟨he, _, hw⟩))
      go_wp2_with fail
      go_quiet (first | (go_at_call_of 58 (Value.string ⟨#[40]⟩); refine (H40.out _ ?_).mono ?_; (repeat (first | exact HKP.out | refine Keep.drewN ?_ _ | refine Keep.drew ?_)); rintro e w' ⟨he, hw⟩; exact ⟨he, _, hw⟩))
      go_wp2_with (go_at_call 72; refine (HWI.out _ ?_ ?_ ?_).mono ?_; (repeat (first | exact HKP.out | refine Keep.drewN ?_ _ | refine Keep.drew ?_ | refine Keep.alloc ?_ _)); (repeat (first | exact HBX.out.par | refine Par.drewN ?_ _ | refine Par.drew ?_ | refine Par.below ?_ (al _ _))); exact (Bt.below HBT.out (by repeat (first | exact Below.refl _ _ | refine bdrN ?_ _ | refine bdr ?_ | refine balloc ?_ _))).box; rintro e w5 ⟨hk5, A5, n5, c5, a5, e5, p5, rfl, hp5, hf5, hv5⟩; have hbt5 := Bt.keep (Bt.below HBT.out (by repeat (first | exact Below.refl _ _ | refine bdrN ?_ _ | refine bdr ?_ | refine balloc ?_ _))) hk5 HPA.out.lt; have hkw5 : Keep g w w5 := Keep.trans (by repeat (first | exact HKP.out | refine Keep.drewN ?_ _ | refine Keep.drew ?_ | refine Keep.alloc ?_ _)) hk5; clear hbox tl t0 t1 t2 t3 pl p0 p1 p2 p3 p4 pf1 pf2 pf3 pf4; have hbox := hbt5.box; have HP5 := Lib.hid hp5; obtain ⟨rfl, rfl, rfl, hnx⟩ := hv5; obtain ⟨pl, p0, p1, p2, p3, p4, pf1, pf2, pf3, pf4⟩ := hp5)
      go_quiet (first | (go_at_call 58; refine (HI41.out _ ?_).mono ?_; (repeat (first | exact hkw5 | refine Keep.drewN ?_ _ | refine Keep.drew ?_ | refine Keep.alloc ?_ _)); rintro e w' ⟨he, hw⟩; exact ⟨he, _, hw⟩))
      go_wp2_with (go_at_call 71; refine (HWR.out _ ?_ ?_).mono ?_; (repeat (first | exact hkw5 | refine Keep.drewN ?_ _ | refine Keep.drew ?_ | refine Keep.alloc ?_ _)); (repeat (first | exact HP5.out | refine Par.drewN ?_ _ | refine Par.drew ?_)); rintro e w6 ⟨rfl, hk6, hp6⟩)
      go_ret
      refine ⟨Keep.trans ?_ hk6, none, 0, 0, t5, q, placeE l t5, rfl, hp6, fresh_nil _ _ _, rfl, rfl, by omega, by omega, [], Sl.nil _ _ _, by simp⟩
      (repeat (first | exact hkw5 | refine Keep.drewN ?_ _ | refine Keep.drew ?_ | refine Keep.alloc ?_ _))
    · have hO : openR l (.inl (x, t5)) = .inl (x, t5 + 1) := by unfold openR; simp only [h41]; rfl
      rw [hO]
      rw [h41] at HI41
      clear hgd hbd h41 hO HWR
      go_enter Tryd.func55, Tryd.ntmps55
      go_wp2_with fail
      go_quiet (fail)
      go_wp2_with fail
      go_region
      go_wp2_with fail
      go_quiet (first | (go_at_call_of 58 (Value.string ⟨#[33]⟩); refine (H33.out _ ?_).mono ?_; (repeat (first | exact Keep.refl _ _ | refine Keep.drewN ?_ _ | refine Keep.drew ?_ | refine Keep.alloc ?_ _)); rintro e w' ⟨he, hw⟩; exact ⟨he, _, hw⟩))
      go_wp2_with fail
      generalize hwd : World.drewN (World.alloc (World.drewN (World.alloc w _) _) _) _ = wd
      have hbx : Bx w g (.slice (some ⟨bt0, offt, none⟩) l.length ct) i d t wd := by subst hwd; exact bx_made HPA.out t _ _
      clear hwd pl p0 p1 p2 p3 p4 pf1 pf2 pf3 pf4
      have HBX := Lib.hid hbx
      have HBT : Hid (Bt w g t wd) := ⟨hbx.box, hbx.tok⟩
      obtain ⟨hkp, hbox, ⟨tl, t0, t1, t2, t3, _, _, _, _⟩, ⟨pl, p0, p1, p2, p3, p4, pf1, pf2, pf3, pf4⟩⟩ := hbx
      have HKP := Lib.hid hkp
      clear hkp
      go_quiet (first | (go_at_call_of 58 (Value.string ⟨#[45]⟩); refine (H45.out _ ?_).mono ?_; (repeat (first | exact HKP.out | refine Keep.drewN ?_ _ | refine Keep.drew ?_)); rintro e w' ⟨he, hw⟩; exact ⟨he, _, hw⟩))
      go_wp2_with fail
      go_quiet (first | (go_at_call_of 58 (Value.string ⟨#[40]⟩); refine (H40.out _ ?_).mono ?_; (repeat (first | exact HKP.out | refine Keep.drewN ?_ _ | refine Keep.drew ?_)); rintro e w' ⟨he, hw⟩; exact ⟨he, _, hw⟩))
      go_wp2_with (go_at_call 72; refine (HWI.out _ ?_ ?_ ?_).mono ?_; (repeat (first | exact HKP.out | refine Keep.drewN ?_ _ | refine Keep.drew ?_ | refine Keep.alloc ?_ _)); (repeat (first | exact HBX.out.par | refine Par.drewN ?_ _ | refine Par.drew ?_ | refine Par.below ?_ (al _ _))); exact (Bt.below HBT.out (by repeat (first | exact Below.refl _ _ | refine bdrN ?_ _ | refine bdr ?_ | refine balloc ?_ _))).box; rintro e w5 ⟨hk5, A5, n5, c5, a5, e5, p5, rfl, hp5, hf5, hv5⟩; have hbt5 := Bt.keep (Bt.below HBT.out (by repeat (first | exact Below.refl _ _ | refine bdrN ?_ _ | refine bdr ?_ | refine balloc ?_ _))) hk5 HPA.out.lt; have hkw5 : Keep g w w5 := Keep.trans (by repeat (first | exact HKP.out | refine Keep.drewN ?_ _ | refine Keep.drew ?_ | refine Keep.alloc ?_ _)) hk5; clear hbox tl t0 t1 t2 t3 pl p0 p1 p2 p3 p4 pf1 pf2 pf3 pf4; have hbox := hbt5.box; have HP5 := Lib.hid hp5; obtain ⟨rfl, rfl, rfl, hnx⟩ := hv5; obtain ⟨pl, p0, p1, p2, p3, p4, pf1, pf2, pf3, pf4⟩ := hp5)
      go_quiet (first | (go_at_call 58; refine (HI41.out _ ?_).mono ?_; (repeat (first | exact hkw5 | refine Keep.drewN ?_ _ | refine Keep.drew ?_ | refine Keep.alloc ?_ _)); rintro e w' ⟨he, hw⟩; exact ⟨he, _, hw⟩))
      go_wp2_with fail
      go_ret
      have hwl := HPA.out.lt
      refine ⟨Keep.set ?_ _ _, A5, n5, c5, (t5 : Int) + 1, 0, 0, rfl, Par.set1 (i := t5) ?_ _, hf5.mono ?_, rfl, rfl, rfl, NodO.keep (B := w.heap.size) hnx (hf5.mono ?_) hwl (Keep.set ?_ _ _)⟩
      · (repeat (first | exact hkw5 | refine Keep.drewN ?_ _ | refine Keep.drew ?_ | refine Keep.alloc ?_ _))
      · (repeat (first | exact HP5.out | refine Par.drewN ?_ _ | refine Par.drew ?_))
      · exact (Keep.size (g := g) (by repeat (first | exact HKP.out | refine Keep.drewN ?_ _ | refine Keep.drew ?_ | refine Keep.alloc ?_ _)))
      · exact (Keep.size (g := g) (by repeat (first | exact HKP.out | refine Keep.drewN ?_ _ | refine Keep.drew ?_ | refine Keep.alloc ?_ _)))
      · (repeat (first | exact Keep.refl _ _ | refine Keep.drewN ?_ _ | refine Keep.drew ?_))
end Go.Proofs.YtahdfglelhdcnaaDoor
/- The program's parser: floors. -/
namespace Go.Proofs.YtahdfglelhdcnaaDoor
open Go Go.RowKit
set_option linter.unusedVariables false
set_option maxRecDepth 100000 in
set_option maxHeartbeats 4000000 in
theorem floor_zero (l : List Tok) (g : Nat) (v : Value) (i : Nat) (d : Int) (kk k : Nat) (w : World) (hp : Par w g v i d 0 0) (hc : Ctx g v l w)
    (HO : ∀ u, Par u g v i d 0 0 → Ctx g v l u → Calls Tryd.prog 55 #[.pointer (some ⟨g, 0, none⟩)] u (PPost l g v i d k (prR l kk i) u)) :
    Calls Tryd.prog 33 #[.pointer (some ⟨g, 0, none⟩), .int .i64 5] w (PPost l g v i d k (flR (prR l kk) l 0 i) w) := by
  have HON : Hid (∀ u, Below w.heap.size w u → Calls Tryd.prog 55 #[.pointer (some ⟨g, 0, none⟩)] u (PPost l g v i d k (prR l kk i) u)) := fun u hu => HO u (hp.below hu) (hc.belowB (hu.mono (Nat.le_of_lt hp.lt)))
  have HR : Hid (flR (prR l kk) l 0 i = prR l kk i) := rfl
  have HFL : Hid (∀ u : World, Calls Tryd.prog 54 #[] u fun e w' => ∃ b, e = .returned (.slice (some ⟨b, 0, none⟩) 5 5) ∧ Below u.heap.size u w') := fun u => (floors_c 0 (by decide) u).mono fun e w' ⟨b, A, c, h1, h2, h3, h4, h5⟩ => ⟨b, h1, h5⟩
  clear HO hp hc
  go_enter Tryd.func33, Tryd.ntmps33
  go_wp2_with (first
    | (go_at_call 54; refine (HFL.out _).mono ?_; rintro e w1 ⟨b, rfl, hb1⟩; have hB := bt (al _ _) hb1; have hbox : w1.cell? ⟨w.heap.size, 0, none⟩ = some (.pointer (some ⟨g, 0, none⟩)) := (hb1.cell (p := ⟨w.heap.size, 0, none⟩) (by show w.heap.size < _; rw [World.size_alloc]; omega)).trans (cells_new w _ _ 0 _ rfl))
    | (go_at_call 55; refine (HON.out _ hB).mono ?_; rintro e w2 ⟨hk2, A, n, c, a, e1, p1, rfl, hp2, hf2, hv2⟩))
  go_ret
  rw [HR.out]
  exact ⟨(Keep.of hB).trans hk2, A, n, c, a, e1, p1, rfl, hp2, hf2.mono hB.size, hv2⟩
end Go.Proofs.YtahdfglelhdcnaaDoor

/- The program's parser: what it holds, what is wrong. -/
import Derived.Test.YtahdfglelhdcnaaDoorParA
import Derived.Test.YtahdfglelhdcnaaDoorParC
import Derived.Deep.RegionWith
import Derived.Deep.DeepCutAuto
import Derived.Deep.RegionHeld3
namespace Go.Proofs.YtahdfglelhdcnaaDoor
open Go Go.RowKit
set_option linter.unusedVariables false
/-- all blocks are kept but one -/
structure Keep (g : Nat) (w w' : World) : Prop where
  os : w'.os = w.os
  tape : w'.tape = w.tape
  output : w'.output = w.output
  size : w.heap.size ≤ w'.heap.size
  block : ∀ k, k < w.heap.size → k ≠ g → w'.heap[k]? = w.heap[k]?
theorem Keep.refl (g : Nat) (w : World) : Keep g w w := ⟨rfl, rfl, rfl, Nat.le_refl _, fun _ _ _ => rfl⟩
theorem Keep.trans {g : Nat} {a b c : World} (h : Keep g a b) (k : Keep g b c) : Keep g a c :=
  ⟨k.os.trans h.os, k.tape.trans h.tape, k.output.trans h.output, Nat.le_trans h.size k.size, fun i hi hne => (k.block i (Nat.lt_of_lt_of_le hi h.size) hne).trans (h.block i hi hne)⟩
theorem Keep.of {g : Nat} {a b : World} (h : Below a.heap.size a b) : Keep g a b := ⟨h.os, h.tape, h.output, h.size, fun i hi _ => h.block i hi⟩
theorem Keep.below {g : Nat} {a b : World} (h : Keep g a b) (hg : g ≤ a.heap.size) : Below g a b := ⟨h.os, h.tape, h.output, h.size, fun i hi => h.block i (by omega) (by omega)⟩
theorem Keep.drew {g : Nat} {a b : World} (h : Keep g a b) : Keep g a b.drew := ⟨h.os, h.tape, h.output, h.size, h.block⟩
theorem Keep.drewN {g : Nat} {a b : World} (h : Keep g a b) (n : Nat) : Keep g a (b.drewN n) := ⟨h.os, h.tape, h.output, h.size, h.block⟩
theorem Keep.set {g : Nat} {a b : World} (h : Keep g a b) (o : Nat) (u : Value) : Keep g a (b.setCell ⟨g, o, none⟩ u) :=
  ⟨h.os, h.tape, h.output, by rw [World.size_setCell]; exact h.size, fun k hk hne => (Below.heap_setCell _ _ _ _ (fun e => hne e)).trans (h.block k hk hne)⟩
theorem Keep.alloc {g : Nat} {a b : World} (h : Keep g a b) (o : Obj) : Keep g a (b.alloc o) := h.trans (Keep.of ((Below.refl _ _).alloc (Nat.le_refl _) _))
/-- a slice that lies elsewhere is kept -/
theorem SlN.keep {g : Nat} {w w' : World} {v : Value} {size n : Nat} {cs : List Value} (h : SlN w v size n cs) {B : Nat} (hf : Fresh B v) (hg : g < B) (hk : Keep g w w') : SlN w' v size n cs := by
  obtain ⟨h1, A, c, rfl, hc, hr⟩ := h
  refine ⟨h1, A, c, rfl, hc, fun h0 => ?_⟩
  obtain ⟨b, off, rfl, hlt, hcell⟩ := hr h0
  have hb : B ≤ b := hf _ _ _ rfl
  refine ⟨b, off, rfl, Nat.lt_of_lt_of_le hlt hk.size, fun j x hj => ?_⟩
  have := hcell j x hj
  unfold World.cell? at this ⊢
  rw [hk.block b hlt (by omega)]
  exact this
/-- the parser's five cells -/
structure Par (w : World) (g : Nat) (v : Value) (i d e p : Int) : Prop where
  lt : g < w.heap.size
  c0 : w.cell? ⟨g, 0, none⟩ = some v
  c1 : w.cell? ⟨g, 1, none⟩ = some (.int .i64 i)
  c2 : w.cell? ⟨g, 2, none⟩ = some (.int .i64 d)
  c3 : w.cell? ⟨g, 3, none⟩ = some (.int .i64 e)
  c4 : w.cell? ⟨g, 4, none⟩ = some (.int .i64 p)
  f1 : w.frozen? ⟨g, 1, none⟩ = false
  f2 : w.frozen? ⟨g, 2, none⟩ = false
  f3 : w.frozen? ⟨g, 3, none⟩ = false
  f4 : w.frozen? ⟨g, 4, none⟩ = false
theorem Par.belowB {w w' : World} {g B : Nat} {v : Value} {i d e p : Int} (h : Par w g v i d e p) (hb : Below B w w') (hlt : g < B) : Par w' g v i d e p := by
  have hs := hb.size
  have hl := h.lt
  exact ⟨by omega, (hb.cell (p := ⟨g, 0, none⟩) hlt).trans h.c0, (hb.cell (p := ⟨g, 1, none⟩) hlt).trans h.c1, (hb.cell (p := ⟨g, 2, none⟩) hlt).trans h.c2, (hb.cell (p := ⟨g, 3, none⟩) hlt).trans h.c3, (hb.cell (p := ⟨g, 4, none⟩) hlt).trans h.c4,
    (hb.frozen (p := ⟨g, 1, none⟩) hlt).trans h.f1, (hb.frozen (p := ⟨g, 2, none⟩) hlt).trans h.f2, (hb.frozen (p := ⟨g, 3, none⟩) hlt).trans h.f3, (hb.frozen (p := ⟨g, 4, none⟩) hlt).trans h.f4⟩
theorem Par.below {w w' : World} {g : Nat} {v : Value} {i d e p : Int} (h : Par w g v i d e p) (hb : Below w.heap.size w w') : Par w' g v i d e p := h.belowB hb h.lt
theorem Par.set1 {w : World} {g : Nat} {v : Value} {i d e p : Int} (h : Par w g v i d e p) (j : Int) : Par (w.setCell ⟨g, 1, none⟩ (.int .i64 j)) g v j d e p := by
  obtain ⟨hl, h0, h1, h2, h3, h4, f1, f2, f3, f4⟩ := h
  refine ⟨by simpa [World.setCell] using hl, ?_, ?_, ?_, ?_, ?_, ?_, ?_, ?_, ?_⟩ <;> simp [*, go_sem]
theorem Par.set2 {w : World} {g : Nat} {v : Value} {i d e p : Int} (h : Par w g v i d e p) (j : Int) : Par (w.setCell ⟨g, 2, none⟩ (.int .i64 j)) g v i j e p := by
  obtain ⟨hl, h0, h1, h2, h3, h4, f1, f2, f3, f4⟩ := h
  refine ⟨by simpa [World.setCell] using hl, ?_, ?_, ?_, ?_, ?_, ?_, ?_, ?_, ?_⟩ <;> simp [*, go_sem]
theorem Par.set3 {w : World} {g : Nat} {v : Value} {i d e p : Int} (h : Par w g v i d e p) (j : Int) : Par (w.setCell ⟨g, 3, none⟩ (.int .i64 j)) g v i d j p := by
  obtain ⟨hl, h0, h1, h2, h3, h4, f1, f2, f3, f4⟩ := h
  refine ⟨by simpa [World.setCell] using hl, ?_, ?_, ?_, ?_, ?_, ?_, ?_, ?_, ?_⟩ <;> simp [*, go_sem]
theorem Par.set4 {w : World} {g : Nat} {v : Value} {i d e p : Int} (h : Par w g v i d e p) (j : Int) : Par (w.setCell ⟨g, 4, none⟩ (.int .i64 j)) g v i d e j := by
  obtain ⟨hl, h0, h1, h2, h3, h4, f1, f2, f3, f4⟩ := h
  refine ⟨by simpa [World.setCell] using hl, ?_, ?_, ?_, ?_, ?_, ?_, ?_, ?_, ?_⟩ <;> simp [*, go_sem]
theorem Par.set34 {w : World} {g : Nat} {v : Value} {i d e p : Int} (h : Par w g v i d e p) (x y : Int) : Par ((w.setCell ⟨g, 3, none⟩ (.int .i64 x)).setCell ⟨g, 4, none⟩ (.int .i64 y)) g v i d x y := by
  obtain ⟨hl, h0, h1, h2, h3, h4, f1, f2, f3, f4⟩ := h
  refine ⟨by simpa [World.setCell] using hl, ?_, ?_, ?_, ?_, ?_, ?_, ?_, ?_, ?_⟩ <;> simp [*, go_sem]
theorem Par.set43 {w : World} {g : Nat} {v : Value} {i d e p : Int} (h : Par w g v i d e p) (x y : Int) : Par ((w.setCell ⟨g, 4, none⟩ (.int .i64 y)).setCell ⟨g, 3, none⟩ (.int .i64 x)) g v i d x y := by
  obtain ⟨hl, h0, h1, h2, h3, h4, f1, f2, f3, f4⟩ := h
  refine ⟨by simpa [World.setCell] using hl, ?_, ?_, ?_, ?_, ?_, ?_, ?_, ?_, ?_⟩ <;> simp [*, go_sem]
theorem Par.drewN {w : World} {g : Nat} {v : Value} {i d e p : Int} (h : Par w g v i d e p) (n : Nat) : Par (w.drewN n) g v i d e p := h.below ⟨rfl, rfl, rfl, Nat.le_refl _, fun _ _ => rfl⟩
theorem Par.drew {w : World} {g : Nat} {v : Value} {i d e p : Int} (h : Par w g v i d e p) : Par w.drew g v i d e p := h.below ⟨rfl, rfl, rfl, Nat.le_refl _, fun _ _ => rfl⟩
end Go.Proofs.YtahdfglelhdcnaaDoor
/- The program's parser: what is wrong. -/
namespace Go.Proofs.YtahdfglelhdcnaaDoor
open Go Go.RowKit
set_option linter.unusedVariables false
theorem Env.belowB {w w' : World} {B : Nat} (h : Env w) (hb : Below B w w') (hm : 1 < B) (ht : 0 < B) : Env w' := by
  have := hb.size
  have h1 := h.hm; have h2 := h.ht
  obtain ⟨m, h3⟩ := h.mlen
  exact ⟨by omega, by omega, ⟨m, (hb.cell (p := ⟨_, 0, none⟩) hm).trans h3⟩, var?_below hb (by kernel_rfl) ht h.tab⟩
/-- what the parser reads, and never writes -/
structure Ctx (g : Nat) (v : Value) (l : List Tok) (w : World) : Prop where
  toks : Sl w g v 4 l.length (l.flatMap Tok.cells)
  env : Env w
  em : 1 < g
  et : 0 < g
theorem Ctx.belowB {g : Nat} {v : Value} {l : List Tok} {w w' : World} (h : Ctx g v l w) (hb : Below g w w') : Ctx g v l w' :=
  ⟨h.toks.below hb, h.env.belowB hb h.em h.et, h.em, h.et⟩
theorem Ctx.keep {g : Nat} {v : Value} {l : List Tok} {w w' : World} (h : Ctx g v l w) (hk : Keep g w w') (hg : g < w.heap.size) : Ctx g v l w' := h.belowB (hk.below (Nat.le_of_lt hg))
theorem Ctx.now {g : Nat} {v : Value} {l : List Tok} {w : World} (h : Ctx g v l w) (hg : g < w.heap.size) : Toks w v l := h.toks.more (Nat.le_of_lt hg)
set_option maxRecDepth 100000 in
set_option maxHeartbeats 2000000 in
theorem wrong_c (l : List Tok) (hl : l.length ≤ 100000) (g : Nat) (v : Value) (i : Nat) (d e0 : Int) (w : World) (hp : Par w g v i d 0 0) (hc : Ctx g v l w) :
    Calls Tryd.prog 71 #[.pointer (some ⟨g, 0, none⟩), .int .i64 e0] w fun e w' => e = .returned (.slice none 0 0) ∧ Keep g w w' ∧ Par w' g v i d (if l.length ≤ i ∧ e0 = 5 then 6 else e0) (placeE l i) := by
  have hct := hc.now hp.lt
  obtain ⟨A, c, hve, hcc⟩ := hct.shape
  subst hve
  have HP : Hid (∀ u : World, Toks u (.slice A l.length c) l → Calls Tryd.prog 81 #[.slice A l.length c, .int .i64 i] u (PlacePostD l i u)) := fun u hu => place_c l (by omega) i _ u hu
  have HPA := Lib.hid hp
  have HC := Lib.hid hc
  obtain ⟨pl, p0, p1, p2, p3, p4, pf1, pf2, pf3, pf4⟩ := hp
  clear hc hct
  by_cases h1 : l.length ≤ i
  · have hd : decide ((l.length : Int) ≤ (i : Int)) = true := by simp; omega
    have hd' : decide (l.length ≤ i) = true := by simp; omega
    cases h5 : (e0 == 5)
    · rw [if_neg (fun h => by rw [h.2] at h5; cases h5)]
      go_enter Tryd.func71, Tryd.ntmps71
      go_wp2_with fail
      go_quiet (fail)
      go_wp2_with fail
      generalize hW : World.drewN w _ = wd
      have hK : Keep g w wd := by subst hW; exact (Keep.refl _ _).drewN _
      have hPd : Par wd g (.slice A l.length c) i d 0 0 := by subst hW; exact HPA.out.drewN _
      clear hW p0 p1 p2 p3 p4 pf1 pf2 pf3 pf4 pl
      have HPd := Lib.hid hPd
      obtain ⟨pl, p0, p1, p2, p3, p4, pf1, pf2, pf3, pf4⟩ := hPd
      have HT : Hid (∀ u, Keep g wd u → Toks u (.slice A l.length c) l) := fun u hu => (HC.out.keep (hK.trans hu) HPA.out.lt).now (Nat.lt_of_lt_of_le HPA.out.lt (hK.trans hu).size)
      go_region_with (go_at_call 81; refine (HP.out _ (HT.out _ ?_)).mono ?_; (first | exact (Keep.refl g wd) | exact (Keep.refl g wd).drew | exact (Keep.refl g wd).drew.drew | exact (Keep.refl g wd).drew.drew.drew | exact (Keep.refl g wd).drew.drew.drew.drew | exact ((Keep.refl g wd).set 3 _) | exact ((Keep.refl g wd).set 3 _).drew | exact ((Keep.refl g wd).set 3 _).drew.drew | exact ((Keep.refl g wd).set 3 _).drew.drew.drew | exact ((Keep.refl g wd).set 3 _).drew.drew.drew.drew); rintro e w5 ⟨rfl, hb5⟩; (first | (have hK5 := (Keep.refl g wd).trans (Keep.of hb5); have hP5 := HPd.out.below hb5) | (have hK5 := (Keep.refl g wd).drew.trans (Keep.of hb5); have hP5 := HPd.out.drew.below hb5) | (have hK5 := (Keep.refl g wd).drew.drew.trans (Keep.of hb5); have hP5 := HPd.out.drew.drew.below hb5) | (have hK5 := (Keep.refl g wd).drew.drew.drew.trans (Keep.of hb5); have hP5 := HPd.out.drew.drew.drew.below hb5) | (have hK5 := (Keep.refl g wd).drew.drew.drew.drew.trans (Keep.of hb5); have hP5 := HPd.out.drew.drew.drew.drew.below hb5) | (have hK5 := ((Keep.refl g wd).set 3 _).trans (Keep.of hb5); have hP5 := (HPd.out.set3 _).below hb5) | (have hK5 := ((Keep.refl g wd).set 3 _).drew.trans (Keep.of hb5); have hP5 := (HPd.out.set3 _).drew.below hb5) | (have hK5 := ((Keep.refl g wd).set 3 _).drew.drew.trans (Keep.of hb5); have hP5 := (HPd.out.set3 _).drew.drew.below hb5) | (have hK5 := ((Keep.refl g wd).set 3 _).drew.drew.drew.trans (Keep.of hb5); have hP5 := (HPd.out.set3 _).drew.drew.drew.below hb5) | (have hK5 := ((Keep.refl g wd).set 3 _).drew.drew.drew.drew.trans (Keep.of hb5); have hP5 := (HPd.out.set3 _).drew.drew.drew.drew.below hb5)); have HP5 := Lib.hid hP5; obtain ⟨ql, q0, q1, q2, q3, q4, qf1, qf2, qf3, qf4⟩ := hP5)
      all_goals
        go_wp2_with fail
        go_ret
        refine ⟨rfl, ?_⟩
        first
          | exact ⟨hK.trans ((hK5.set _ _).set _ _), HP5.out.set34 _ _⟩
          | exact ⟨hK.trans ((hK5.set _ _).set _ _), HP5.out.set43 _ _⟩
          | exact ⟨hK.trans (hK5.set _ _), HP5.out.set4 _⟩
          | exact ⟨hK.trans ((hK5.set _ _).set _ _).drew, (HP5.out.set34 _ _).drew⟩
          | exact ⟨hK.trans ((hK5.set _ _).set _ _).drew, (HP5.out.set43 _ _).drew⟩
          | exact ⟨hK.trans (hK5.set _ _).drew, (HP5.out.set4 _).drew⟩
          | exact ⟨hK.trans ((hK5.set _ _).set _ _).drew.drew, (HP5.out.set34 _ _).drew.drew⟩
          | exact ⟨hK.trans ((hK5.set _ _).set _ _).drew.drew, (HP5.out.set43 _ _).drew.drew⟩
          | exact ⟨hK.trans (hK5.set _ _).drew.drew, (HP5.out.set4 _).drew.drew⟩
    · rw [if_pos ⟨h1, eq_of_beq h5⟩]
      go_enter Tryd.func71, Tryd.ntmps71
      go_wp2_with fail
      go_quiet (fail)
      go_wp2_with fail
      generalize hW : World.drewN w _ = wd
      have hK : Keep g w wd := by subst hW; exact (Keep.refl _ _).drewN _
      have hPd : Par wd g (.slice A l.length c) i d 0 0 := by subst hW; exact HPA.out.drewN _
      clear hW p0 p1 p2 p3 p4 pf1 pf2 pf3 pf4 pl
      have HPd := Lib.hid hPd
      obtain ⟨pl, p0, p1, p2, p3, p4, pf1, pf2, pf3, pf4⟩ := hPd
      have HT : Hid (∀ u, Keep g wd u → Toks u (.slice A l.length c) l) := fun u hu => (HC.out.keep (hK.trans hu) HPA.out.lt).now (Nat.lt_of_lt_of_le HPA.out.lt (hK.trans hu).size)
      go_region_with (go_at_call 81; refine (HP.out _ (HT.out _ ?_)).mono ?_; (first | exact (Keep.refl g wd) | exact (Keep.refl g wd).drew | exact (Keep.refl g wd).drew.drew | exact (Keep.refl g wd).drew.drew.drew | exact (Keep.refl g wd).drew.drew.drew.drew | exact ((Keep.refl g wd).set 3 _) | exact ((Keep.refl g wd).set 3 _).drew | exact ((Keep.refl g wd).set 3 _).drew.drew | exact ((Keep.refl g wd).set 3 _).drew.drew.drew | exact ((Keep.refl g wd).set 3 _).drew.drew.drew.drew); rintro e w5 ⟨rfl, hb5⟩; (first | (have hK5 := (Keep.refl g wd).trans (Keep.of hb5); have hP5 := HPd.out.below hb5) | (have hK5 := (Keep.refl g wd).drew.trans (Keep.of hb5); have hP5 := HPd.out.drew.below hb5) | (have hK5 := (Keep.refl g wd).drew.drew.trans (Keep.of hb5); have hP5 := HPd.out.drew.drew.below hb5) | (have hK5 := (Keep.refl g wd).drew.drew.drew.trans (Keep.of hb5); have hP5 := HPd.out.drew.drew.drew.below hb5) | (have hK5 := (Keep.refl g wd).drew.drew.drew.drew.trans (Keep.of hb5); have hP5 := HPd.out.drew.drew.drew.drew.below hb5) | (have hK5 := ((Keep.refl g wd).set 3 _).trans (Keep.of hb5); have hP5 := (HPd.out.set3 _).below hb5) | (have hK5 := ((Keep.refl g wd).set 3 _).drew.trans (Keep.of hb5); have hP5 := (HPd.out.set3 _).drew.below hb5) | (have hK5 := ((Keep.refl g wd).set 3 _).drew.drew.trans (Keep.of hb5); have hP5 := (HPd.out.set3 _).drew.drew.below hb5) | (have hK5 := ((Keep.refl g wd).set 3 _).drew.drew.drew.trans (Keep.of hb5); have hP5 := (HPd.out.set3 _).drew.drew.drew.below hb5) | (have hK5 := ((Keep.refl g wd).set 3 _).drew.drew.drew.drew.trans (Keep.of hb5); have hP5 := (HPd.out.set3 _).drew.drew.drew.drew.below hb5)); have HP5 := Lib.hid hP5; obtain ⟨ql, q0, q1, q2, q3, q4, qf1, qf2, qf3, qf4⟩ := hP5)
      all_goals
        go_wp2_with fail
        go_ret
        refine ⟨rfl, ?_⟩
        first
          | exact ⟨hK.trans ((hK5.set _ _).set _ _), HP5.out.set34 _ _⟩
          | exact ⟨hK.trans ((hK5.set _ _).set _ _), HP5.out.set43 _ _⟩
          | exact ⟨hK.trans (hK5.set _ _), HP5.out.set4 _⟩
          | exact ⟨hK.trans ((hK5.set _ _).set _ _).drew, (HP5.out.set34 _ _).drew⟩
          | exact ⟨hK.trans ((hK5.set _ _).set _ _).drew, (HP5.out.set43 _ _).drew⟩
          | exact ⟨hK.trans (hK5.set _ _).drew, (HP5.out.set4 _).drew⟩
          | exact ⟨hK.trans ((hK5.set _ _).set _ _).drew.drew, (HP5.out.set34 _ _).drew.drew⟩
          | exact ⟨hK.trans ((hK5.set _ _).set _ _).drew.drew, (HP5.out.set43 _ _).drew.drew⟩
          | exact ⟨hK.trans (hK5.set _ _).drew.drew, (HP5.out.set4 _).drew.drew⟩
  · have hd : decide ((l.length : Int) ≤ (i : Int)) = false := by simp; omega
    have hd' : decide (l.length ≤ i) = false := by simp; omega
    · rw [if_neg (fun h => h1 h.1)]
      go_enter Tryd.func71, Tryd.ntmps71
      go_wp2_with fail
      go_quiet (fail)
      go_wp2_with fail
      generalize hW : World.drewN w _ = wd
      have hK : Keep g w wd := by subst hW; exact (Keep.refl _ _).drewN _
      have hPd : Par wd g (.slice A l.length c) i d 0 0 := by subst hW; exact HPA.out.drewN _
      clear hW p0 p1 p2 p3 p4 pf1 pf2 pf3 pf4 pl
      have HPd := Lib.hid hPd
      obtain ⟨pl, p0, p1, p2, p3, p4, pf1, pf2, pf3, pf4⟩ := hPd
      have HT : Hid (∀ u, Keep g wd u → Toks u (.slice A l.length c) l) := fun u hu => (HC.out.keep (hK.trans hu) HPA.out.lt).now (Nat.lt_of_lt_of_le HPA.out.lt (hK.trans hu).size)
      go_region_with (go_at_call 81; refine (HP.out _ (HT.out _ ?_)).mono ?_; (first | exact (Keep.refl g wd) | exact (Keep.refl g wd).drew | exact (Keep.refl g wd).drew.drew | exact (Keep.refl g wd).drew.drew.drew | exact (Keep.refl g wd).drew.drew.drew.drew | exact ((Keep.refl g wd).set 3 _) | exact ((Keep.refl g wd).set 3 _).drew | exact ((Keep.refl g wd).set 3 _).drew.drew | exact ((Keep.refl g wd).set 3 _).drew.drew.drew | exact ((Keep.refl g wd).set 3 _).drew.drew.drew.drew); rintro e w5 ⟨rfl, hb5⟩; (first | (have hK5 := (Keep.refl g wd).trans (Keep.of hb5); have hP5 := HPd.out.below hb5) | (have hK5 := (Keep.refl g wd).drew.trans (Keep.of hb5); have hP5 := HPd.out.drew.below hb5) | (have hK5 := (Keep.refl g wd).drew.drew.trans (Keep.of hb5); have hP5 := HPd.out.drew.drew.below hb5) | (have hK5 := (Keep.refl g wd).drew.drew.drew.trans (Keep.of hb5); have hP5 := HPd.out.drew.drew.drew.below hb5) | (have hK5 := (Keep.refl g wd).drew.drew.drew.drew.trans (Keep.of hb5); have hP5 := HPd.out.drew.drew.drew.drew.below hb5) | (have hK5 := ((Keep.refl g wd).set 3 _).trans (Keep.of hb5); have hP5 := (HPd.out.set3 _).below hb5) | (have hK5 := ((Keep.refl g wd).set 3 _).drew.trans (Keep.of hb5); have hP5 := (HPd.out.set3 _).drew.below hb5) | (have hK5 := ((Keep.refl g wd).set 3 _).drew.drew.trans (Keep.of hb5); have hP5 := (HPd.out.set3 _).drew.drew.below hb5) | (have hK5 := ((Keep.refl g wd).set 3 _).drew.drew.drew.trans (Keep.of hb5); have hP5 := (HPd.out.set3 _).drew.drew.drew.below hb5) | (have hK5 := ((Keep.refl g wd).set 3 _).drew.drew.drew.drew.trans (Keep.of hb5); have hP5 := (HPd.out.set3 _).drew.drew.drew.drew.below hb5)); have HP5 := Lib.hid hP5; obtain ⟨ql, q0, q1, q2, q3, q4, qf1, qf2, qf3, qf4⟩ := hP5)
      all_goals
        go_wp2_with fail
        go_ret
        refine ⟨rfl, ?_⟩
        first
          | exact ⟨hK.trans ((hK5.set _ _).set _ _), HP5.out.set34 _ _⟩
          | exact ⟨hK.trans ((hK5.set _ _).set _ _), HP5.out.set43 _ _⟩
          | exact ⟨hK.trans (hK5.set _ _), HP5.out.set4 _⟩
          | exact ⟨hK.trans ((hK5.set _ _).set _ _).drew, (HP5.out.set34 _ _).drew⟩
          | exact ⟨hK.trans ((hK5.set _ _).set _ _).drew, (HP5.out.set43 _ _).drew⟩
          | exact ⟨hK.trans (hK5.set _ _).drew, (HP5.out.set4 _).drew⟩
          | exact ⟨hK.trans ((hK5.set _ _).set _ _).drew.drew, (HP5.out.set34 _ _).drew.drew⟩
          | exact ⟨hK.trans ((hK5.set _ _).set _ _).drew.drew, (HP5.out.set43 _ _).drew.drew⟩
          | exact ⟨hK.trans (hK5.set _ _).drew.drew, (HP5.out.set4 _).drew.drew⟩
end Go.Proofs.YtahdfglelhdcnaaDoor
/- The program's parser: behind a sign, one deeper. -/
namespace Go.Proofs.YtahdfglelhdcnaaDoor
open Go Go.RowKit
set_option linter.unusedVariables false
/-- a slice whose cells may be written -/
def Unf (w : World) (V : Value) : Prop := ∀ ad n c, V = .slice (some ad) n c → ad.block < w.heap.size ∧ ∀ j, w.frozen? ⟨ad.block, j, none⟩ = false
theorem Unf.below {w w' : World} {V : Value} (h : Unf w V) (hb : Below w.heap.size w w') : Unf w' V := fun ad n c e => by
  obtain ⟨h1, h2⟩ := h ad n c e
  exact ⟨Nat.lt_of_lt_of_le h1 hb.size, fun j => (hb.frozen (p := ⟨ad.block, j, none⟩) h1).trans (h2 j)⟩
theorem Unf.keep {w w' : World} {V : Value} (h : Unf w V) {B g : Nat} (hf : Fresh B V) (hg : g < B) (hk : Keep g w w') : Unf w' V := fun ad n c e => by
  obtain ⟨h1, h2⟩ := h ad n c e
  have hb := hf ad n c e
  refine ⟨Nat.lt_of_lt_of_le h1 hk.size, fun j => ?_⟩
  have := h2 j
  unfold World.frozen? at this ⊢
  rw [hk.block ad.block h1 (by omega)]
  exact this
theorem Unf.own {w : World} {base : Nat} {e : TypeId} {size : Nat} {v : Value} {n : Nat} {xs : List Value} (h : w.ownsRow base e size v n xs) : Unf w v := fun ad m c hv => by
  rcases h.2 with ⟨rfl, _⟩ | ⟨g, cap, cur, rfl, hg, hh, _⟩
  · cases hv
  · cases hv
    refine ⟨?_, fun j => ?_⟩
    · rcases Nat.lt_or_ge g w.heap.size with hlt | hge
      · exact hlt
      · rw [Array.getElem?_eq_none hge] at hh; cases hh
    · unfold World.frozen?
      rw [hh]
      simp
theorem Unf.nil (w : World) (n c : Nat) : Unf w (.slice none n c) := fun ad m k e => by cases e
/-- nodes that may be written -/
structure NodO (w : World) (V : Value) (l : List Nod) : Prop where
  nods : Nods w V l
  unf : Unf w V
theorem NodO.below {w w' : World} {V : Value} {l : List Nod} (h : NodO w V l) (hb : Below w.heap.size w w') : NodO w' V l := ⟨SlN.below h.nods hb, h.unf.below hb⟩
theorem NodO.keep {w w' : World} {V : Value} {l : List Nod} (h : NodO w V l) {B g : Nat} (hf : Fresh B V) (hg : g < B) (hk : Keep g w w') : NodO w' V l := ⟨SlN.keep h.nods hf hg hk, h.unf.keep hf hg hk⟩
theorem NodO.shape {w : World} {V : Value} {l : List Nod} (h : NodO w V l) : ∃ A c, V = .slice A l.length c ∧ l.length ≤ c := Nods.shape h.nods
def PVal (l : List Tok) (i k : Nat) (r : Res) (w : World) (V : Value) (a e p : Int) : Prop := match r with
  | .inl (x, t) => a = t ∧ e = 0 ∧ p = 0 ∧ NodO w V x.flat
  | .inr (e2, p2) => e = e2 ∧ p = p2 ∧ 0 ≤ a ∧ a ≤ ((max i l.length + k : Nat) : Int) ∧ ∃ gl, Nods w V gl ∧ gl.length ≤ l.length - i
def PPost (l : List Tok) (g : Nat) (v : Value) (i : Nat) (d : Int) (k : Nat) (r : Res) (w : World) (e : Ending) (w' : World) : Prop :=
  Keep g w w' ∧ ∃ (A : Option Addr) (n c : Nat) (a e1 p1 : Int), e = .returned (.slice A n c) ∧ Par w' g v a d e1 p1 ∧ Fresh w.heap.size (.slice A n c) ∧ PVal l i k r w' (.slice A n c) a e1 p1
theorem PVal.keep {l : List Tok} {i k : Nat} {r : Res} {w w' : World} {V : Value} {a e p : Int} (h : PVal l i k r w V a e p) {B g : Nat} (hf : Fresh B V) (hg : g < B) (hk : Keep g w w') : PVal l i k r w' V a e p := by
  unfold PVal at h ⊢
  split
  · exact ⟨h.1, h.2.1, h.2.2.1, NodO.keep h.2.2.2 hf hg hk⟩
  · obtain ⟨h1, h2, h3, h4, gl, h5, h6⟩ := h
    exact ⟨h1, h2, h3, h4, gl, SlN.keep h5 hf hg hk, h6⟩
theorem fresh_nil (B n c : Nat) : Fresh B (.slice none n c) := fun ad m k e => by cases e
set_option maxRecDepth 100000 in
set_option maxHeartbeats 2000000 in
theorem within_deep_one (l : List Tok) (hl : l.length ≤ 100000) (g : Nat) (v : Value) (i : Nat) (w : World) (hp : Par w g v i 12 0 0) (hc : Ctx g v l w) (hi : i < l.length) (k i2 : Nat) :
    Calls Tryd.prog 72 #[.pointer (some ⟨g, 0, none⟩), .func (.func 55) #[.pointer (some ⟨g, 0, none⟩)] #[]] w (PPost l g v i2 12 k (.inr (7, placeE l i)) w) := by
  have HW : Hid (∀ u, Par u g v i 12 0 0 → Ctx g v l u → Calls Tryd.prog 71 #[.pointer (some ⟨g, 0, none⟩), .int .i64 7] u fun e w' => e = .returned (.slice none 0 0) ∧ Keep g u w' ∧ Par w' g v i 12 7 (placeE l i)) := fun u h1 h2 => by
    have := wrong_c l hl g v i 12 7 u h1 h2
    rw [if_neg (by omega)] at this
    exact this
  have HP := Lib.hid hp
  have HC := Lib.hid hc
  obtain ⟨pl, p0, p1, p2, p3, p4, pf1, pf2, pf3, pf4⟩ := hp
  clear hc
  go_enter Tryd.func72, Tryd.ntmps72
  go_wp2_with (go_at_call 71; refine (HW.out _ HP.out HC.out).mono ?_; rintro e w1 ⟨rfl, hk1, hp1⟩)
  go_ret
  exact ⟨hk1, none, 0, 0, i, 7, placeE l i, rfl, hp1, fresh_nil _ _ _, rfl, rfl, by omega, by omega, [], Sl.nil _ _ _, by simp⟩
set_option maxRecDepth 100000 in
set_option maxHeartbeats 2000000 in
theorem within_deep_fl (l : List Tok) (hl : l.length ≤ 100000) (g : Nat) (v : Value) (i : Nat) (bb : Nat) (w : World) (hp : Par w g v i 12 0 0) (hc : Ctx g v l w) (hi : i < l.length) (k i2 : Nat) :
    Calls Tryd.prog 72 #[.pointer (some ⟨g, 0, none⟩), .func (.func 73) #[] #[.pointer (some ⟨bb, 0, none⟩)]] w (PPost l g v i2 12 k (.inr (7, placeE l i)) w) := by
  have HW : Hid (∀ u, Par u g v i 12 0 0 → Ctx g v l u → Calls Tryd.prog 71 #[.pointer (some ⟨g, 0, none⟩), .int .i64 7] u fun e w' => e = .returned (.slice none 0 0) ∧ Keep g u w' ∧ Par w' g v i 12 7 (placeE l i)) := fun u h1 h2 => by
    have := wrong_c l hl g v i 12 7 u h1 h2
    rw [if_neg (by omega)] at this
    exact this
  have HP := Lib.hid hp
  have HC := Lib.hid hc
  obtain ⟨pl, p0, p1, p2, p3, p4, pf1, pf2, pf3, pf4⟩ := hp
  clear hc
  go_enter Tryd.func72, Tryd.ntmps72
  go_wp2_with (go_at_call 71; refine (HW.out _ HP.out HC.out).mono ?_; rintro e w1 ⟨rfl, hk1, hp1⟩)
  go_ret
  exact ⟨hk1, none, 0, 0, i, 7, placeE l i, rfl, hp1, fresh_nil _ _ _, rfl, rfl, by omega, by omega, [], Sl.nil _ _ _, by simp⟩
set_option maxRecDepth 100000 in
set_option maxHeartbeats 2000000 in
theorem within_one (l : List Tok) (hl : l.length ≤ 100000) (g : Nat) (v : Value) (i : Nat) (d : Nat) (hd : d < 12) (w : World) (hp : Par w g v i d 0 0) (hi : i < l.length) (k : Nat) (r : Res)
    (HR0 : ∀ u, Keep g w u → Par u g v ((i : Int) + 1) ((d : Int) + 1) 0 0 → Calls Tryd.prog 55 #[.pointer (some ⟨g, 0, none⟩)] u (PPost l g v (i + 1) ((d : Int) + 1) k r u)) :
    Calls Tryd.prog 72 #[.pointer (some ⟨g, 0, none⟩), .func (.func 55) #[.pointer (some ⟨g, 0, none⟩)] #[]] w (PPost l g v (i + 1) d k r w) := by
  have HR := Lib.hid HR0
  have HP := Lib.hid hp
  obtain ⟨pl, p0, p1, p2, p3, p4, pf1, pf2, pf3, pf4⟩ := hp
  clear HR0
  have hd2 : ((d : Int) == 12) = false := by rw [beq_eq_false_iff_ne]; omega
  go_enter Tryd.func72, Tryd.ntmps72
  go_wp2_with (go_at_call 55; refine (HR.out _ (((Keep.refl g w).set _ _).set _ _) ((HP.out.set2 _).set1 _)).mono ?_; rintro e w1 ⟨hk1, A1, n1, c1, a1, e1, p1', rfl, hp1, hf1, hv1⟩; have HP1 := Lib.hid hp1; clear p0 p1 p2 p3 p4 pf1 pf2 pf3 pf4; obtain ⟨ql, q0, q1, q2, q3, q4, qf1, qf2, qf3, qf4⟩ := hp1)
  go_ret
  have hk := (((Keep.refl g w).set 2 (.int .i64 ((d : Int) + 1))).set 1 (.int .i64 ((i : Int) + 1))).trans hk1
  simp only [World.size_setCell] at hf1
  refine ⟨hk.set 2 (.int .i64 (d : Int)), A1, n1, c1, a1, e1, p1', rfl, HP1.out.set2 _, hf1, hv1.keep hf1 pl ((Keep.refl g w1).set 2 _)⟩
set_option maxRecDepth 100000 in
set_option maxHeartbeats 2000000 in
theorem within_fl (l : List Tok) (hl : l.length ≤ 100000) (g : Nat) (v : Value) (i : Nat) (d : Nat) (hd : d < 12) (bb : Nat) (w : World) (hp : Par w g v i d 0 0) (hi : i < l.length) (k : Nat) (r : Res)
    (HR0 : ∀ u, Keep g w u → Par u g v ((i : Int) + 1) ((d : Int) + 1) 0 0 → Calls Tryd.prog 73 #[.pointer (some ⟨bb, 0, none⟩)] u (PPost l g v (i + 1) ((d : Int) + 1) k r u)) :
    Calls Tryd.prog 72 #[.pointer (some ⟨g, 0, none⟩), .func (.func 73) #[] #[.pointer (some ⟨bb, 0, none⟩)]] w (PPost l g v (i + 1) d k r w) := by
  have HR := Lib.hid HR0
  have HP := Lib.hid hp
  obtain ⟨pl, p0, p1, p2, p3, p4, pf1, pf2, pf3, pf4⟩ := hp
  clear HR0
  have hd2 : ((d : Int) == 12) = false := by rw [beq_eq_false_iff_ne]; omega
  go_enter Tryd.func72, Tryd.ntmps72
  go_wp2_with (go_at_call 73; refine (HR.out _ (((Keep.refl g w).set _ _).set _ _) ((HP.out.set2 _).set1 _)).mono ?_; rintro e w1 ⟨hk1, A1, n1, c1, a1, e1, p1', rfl, hp1, hf1, hv1⟩; have HP1 := Lib.hid hp1; clear p0 p1 p2 p3 p4 pf1 pf2 pf3 pf4; obtain ⟨ql, q0, q1, q2, q3, q4, qf1, qf2, qf3, qf4⟩ := hp1)
  go_ret
  have hk := (((Keep.refl g w).set 2 (.int .i64 ((d : Int) + 1))).set 1 (.int .i64 ((i : Int) + 1))).trans hk1
  simp only [World.size_setCell] at hf1
  refine ⟨hk.set 2 (.int .i64 (d : Int)), A1, n1, c1, a1, e1, p1', rfl, HP1.out.set2 _, hf1, hv1.keep hf1 pl ((Keep.refl g w1).set 2 _)⟩
end Go.Proofs.YtahdfglelhdcnaaDoor

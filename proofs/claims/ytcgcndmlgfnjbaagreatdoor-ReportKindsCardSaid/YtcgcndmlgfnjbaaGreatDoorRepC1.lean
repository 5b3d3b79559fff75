/- Whether two verdicts are alike: both sides' walks. -/
import Derived.Test.YtcgcndmlgfnjbaaGreatDoorRepA1
import Derived.Test.YtcgcndmlgfnjbaaGreatDoorSchH
import Derived.Test.YtcgcndmlgfnjbaaGreatDoorSchPkB
import Derived.Test.YtcgcndmlgfnjbaaGreatDoorSchB
namespace Go.Proofs.YtcgcndmlgfnjbaaGreatDoor
open Go Go.RowKit
set_option linter.unusedVariables false
def vdV (v : Vd) (cv sv : Value) : Value := .agg #[.int .i64 v.kind, .int .i64 v.e, .int .i64 v.pos, .int .i64 v.paths, .int .i64 v.ends, .int .i64 v.bad.kind, .int .i64 v.bad.what, .int .i64 v.bad.crashes, cv, sv]
def vdA (v : Vd) (cv sv : Value) : Array Value := #[.int .i64 v.kind, .int .i64 v.e, .int .i64 v.pos, .int .i64 v.paths, .int .i64 v.ends, .int .i64 v.bad.kind, .int .i64 v.bad.what, .int .i64 v.bad.crashes, cv, sv]
/-- the ten cells of a verdict in a block of its own -/
structure VdAt (w : World) (b : Nat) (v : Vd) (cv sv : Value) : Prop where
  c0 : w.cell? ⟨b, 0, none⟩ = some (.int .i64 v.kind)
  c1 : w.cell? ⟨b, 1, none⟩ = some (.int .i64 v.e)
  c2 : w.cell? ⟨b, 2, none⟩ = some (.int .i64 v.pos)
  c3 : w.cell? ⟨b, 3, none⟩ = some (.int .i64 v.paths)
  c4 : w.cell? ⟨b, 4, none⟩ = some (.int .i64 v.ends)
  c5 : w.cell? ⟨b, 5, none⟩ = some (.int .i64 v.bad.kind)
  c6 : w.cell? ⟨b, 6, none⟩ = some (.int .i64 v.bad.what)
  c7 : w.cell? ⟨b, 7, none⟩ = some (.int .i64 v.bad.crashes)
  c8 : w.cell? ⟨b, 8, none⟩ = some cv
  c9 : w.cell? ⟨b, 9, none⟩ = some sv
theorem VdAt.lt {w : World} {b : Nat} {v : Vd} {cv sv : Value} (h : VdAt w b v cv sv) : b < w.heap.size := World.block_lt_of_cell? w ⟨b, 0, none⟩ h.c0
theorem VdAt.below {w w' : World} {b : Nat} {v : Vd} {cv sv : Value} (h : VdAt w b v cv sv) (hb : Below w.heap.size w w') : VdAt w' b v cv sv := by
  have hl := h.lt
  have e := fun j u (hc : w.cell? ⟨b, j, none⟩ = some u) => (hb.cell (p := ⟨b, j, none⟩) hl).trans hc
  exact ⟨e _ _ h.c0, e _ _ h.c1, e _ _ h.c2, e _ _ h.c3, e _ _ h.c4, e _ _ h.c5, e _ _ h.c6, e _ _ h.c7, e _ _ h.c8, e _ _ h.c9⟩
theorem vdAt_new (w : World) (v : Vd) (cv sv : Value) (t : TypeId) : VdAt (w.alloc (.cells #[.int .i64 v.kind, .int .i64 v.e, .int .i64 v.pos, .int .i64 v.paths, .int .i64 v.ends, .int .i64 v.bad.kind, .int .i64 v.bad.what, .int .i64 v.bad.crashes, cv, sv] t)) w.heap.size v cv sv :=
  ⟨cells_new _ _ _ _ _ rfl, cells_new _ _ _ _ _ rfl, cells_new _ _ _ _ _ rfl, cells_new _ _ _ _ _ rfl, cells_new _ _ _ _ _ rfl, cells_new _ _ _ _ _ rfl, cells_new _ _ _ _ _ rfl, cells_new _ _ _ _ _ rfl, cells_new _ _ _ _ _ rfl, cells_new _ _ _ _ _ rfl⟩
def numsV (v : Vd) : Value := .agg #[.int .i64 v.kind, .int .i64 v.e, .int .i64 v.pos, .int .i64 v.paths, .int .i64 v.ends]
theorem within_r (n a b : Int) (w : World) : Calls Tryz.prog 23 #[.int .i64 n, .int .i64 a, .int .i64 b] w fun e w' => e = .returned (.bool (between n a b)) ∧ w = w' := by
  have HV : between n a b = (decide (a ≤ n) && decide (n ≤ b)) := rfl
  cases h1 : decide (a ≤ n) <;> cases h2 : decide (n ≤ b)
  all_goals
    rw [h1, h2] at HV
    have HV2 := Lib.hid HV
    clear HV
    go_enter Tryz.func23, Tryz.ntmps23
    go_wp2
    go_ret
    exact ⟨ret_bool (by rw [HV2.out]; rfl), rfl⟩
theorem in_r (n a b : Int) (w : World) : Calls Tryz.prog 29 #[.int .i64 n, .int .i64 a, .int .i64 b] w fun e w' => e = .returned (.bool (between n a b)) ∧ w = w' := by
  have HV : between n a b = (decide (a ≤ n) && decide (n ≤ b)) := rfl
  cases h1 : decide (a ≤ n) <;> cases h2 : decide (n ≤ b)
  all_goals
    rw [h1, h2] at HV
    have HV2 := Lib.hid HV
    clear HV
    go_enter Tryz.func29, Tryz.ntmps29
    go_wp2
    go_ret
    exact ⟨ret_bool (by rw [HV2.out]; rfl), rfl⟩
set_option maxRecDepth 100000 in
set_option maxHeartbeats 4000000 in
theorem nums_c (v : Vd) (A1 A2 : Option Addr) (n1 k1 n2 k2 : Nat) (w : World) :
    Calls Tryz.prog 37 #[vdV v (.slice A1 n1 k1) (.slice A2 n2 k2)] w fun e w' => e = .returned (numsV v) ∧ Below w.heap.size w w' := by
  unfold vdV numsV
  have HB0 : Hid (Below w.heap.size w ((w.alloc (.cells #[.int .i64 v.kind, .int .i64 v.e, .int .i64 v.pos, .int .i64 v.paths, .int .i64 v.ends, .int .i64 v.bad.kind, .int .i64 v.bad.what, .int .i64 v.bad.crashes, .slice A1 n1 k1, .slice A2 n2 k2] 28)).alloc (.cells #[.int .i64 0, .int .i64 0, .int .i64 0, .int .i64 0, .int .i64 0] 55))) := balloc (al w _) _
  have H0 := Lib.hid ((vdAt_new w v (.slice A1 n1 k1) (.slice A2 n2 k2) 28).below (al _ (.cells #[.int .i64 0, .int .i64 0, .int .i64 0, .int .i64 0, .int .i64 0] 55)))
  go_enter Tryz.func37, Tryz.ntmps37
  go_wp2_with fail
  refine bodyPost_ret (v := .agg #[.int .i64 v.kind, .int .i64 v.e, .int .i64 v.pos, .int .i64 v.paths, .int .i64 v.ends]) (by simp [results, Tryz.results37, go_sem]; try rfl) rfl ?_
  exact ⟨rfl, by repeat (first | exact HB0.out | exact balloc (al w _) _ | refine below_set ?_ (by simp) _)⟩
theorem eq_int (d : Nat) (a b : Int) (u : World) : (Op.equalIn (d + 1) 3 (.int .i64 a) (.int .i64 b)).run Tryz.prog u = .ok (a == b) u := by
  simp [Op.equalIn, Sem.run_bind, run_underlying Tryz.underlying3, Result.andThen]
theorem parts5 (x0 x1 x2 x3 x4 : Value) (u : World) : (part 3 #[x0, x1, x2, x3, x4] 0).run Tryz.prog u = .ok x0 u ∧ (part 3 #[x0, x1, x2, x3, x4] 1).run Tryz.prog u = .ok x1 u ∧ (part 3 #[x0, x1, x2, x3, x4] 2).run Tryz.prog u = .ok x2 u ∧ (part 3 #[x0, x1, x2, x3, x4] 3).run Tryz.prog u = .ok x3 u ∧ (part 3 #[x0, x1, x2, x3, x4] 4).run Tryz.prog u = .ok x4 u :=
  ⟨by kernel_rfl, by kernel_rfl, by kernel_rfl, by kernel_rfl, by kernel_rfl⟩
theorem size_int (u : World) : (sizeOf 3).run Tryz.prog u = .ok 1 u := by kernel_rfl
theorem eq_fiveD (d : Nat) (x0 x1 x2 x3 x4 y0 y1 y2 y3 y4 : Int) (u : World) :
    (Op.equalIn (d + 1 + 1) 55 (.agg #[.int .i64 x0, .int .i64 x1, .int .i64 x2, .int .i64 x3, .int .i64 x4]) (.agg #[.int .i64 y0, .int .i64 y1, .int .i64 y2, .int .i64 y3, .int .i64 y4])).run Tryz.prog u = .ok ((x0 == y0) && (x1 == y1) && (x2 == y2) && (x3 == y3) && (x4 == y4)) u := by
  have p := fun (a b c d e : Value) u => parts5 a b c d e u
  rw [Op.equalIn]
  simp only [Sem.run_bind, run_underlying Tryz.underlying55, Result.andThen_ok, size_int]
  rw [Std.Legacy.Range.forIn_eq_forIn_range']
  simp only [Std.Legacy.Range.size]
  by_cases h0 : x0 = y0 <;> by_cases h1 : x1 = y1 <;> by_cases h2 : x2 = y2 <;> by_cases h3 : x3 = y3 <;> by_cases h4 : x4 = y4 <;>
    simp [List.range', List.forIn_cons, Sem.run_bind, (p _ _ _ _ _ _).1, (p _ _ _ _ _ _).2.1, (p _ _ _ _ _ _).2.2.1, (p _ _ _ _ _ _).2.2.2.1, (p _ _ _ _ _ _).2.2.2.2, eq_int d, Result.andThen, h0, h1, h2, h3, h4]
theorem guard_five (xs ys : Array Value) (o1 o2 : Operand) (u : World) : (eqGuard .eql 55 o1 o2 (.agg xs) (.agg ys)).run Tryz.prog u = .ok () u := by kernel_rfl
theorem bin_five (x0 x1 x2 x3 x4 y0 y1 y2 y3 y4 : Int) (u : World) : (binOp .eql 55 (.agg #[.int .i64 x0, .int .i64 x1, .int .i64 x2, .int .i64 x3, .int .i64 x4]) (.agg #[.int .i64 y0, .int .i64 y1, .int .i64 y2, .int .i64 y3, .int .i64 y4])).run Tryz.prog u = .ok (.bool ((x0 == y0) && (x1 == y1) && (x2 == y2) && (x3 == y3) && (x4 == y4))) u := by
  have e : (Op.equal 55 (.agg #[.int .i64 x0, .int .i64 x1, .int .i64 x2, .int .i64 x3, .int .i64 x4]) (.agg #[.int .i64 y0, .int .i64 y1, .int .i64 y2, .int .i64 y3, .int .i64 y4])).run Tryz.prog u = _ := eq_fiveD 9998 x0 x1 x2 x3 x4 y0 y1 y2 y3 y4 u
  simp only [binOp, Sem.run_bind, e, Result.andThen]
  rfl
/-- the five numbers are alike -/
def fiveB (a b : Vd) : Bool := (a.kind == b.kind) && (a.e == b.e) && (a.pos == b.pos) && (a.paths == b.paths) && (a.ends == b.ends)
theorem vd_dec (a b : Vd) : decide (a = b) = (fiveB a b && decide (a.bad = b.bad) && decide (a.sched = b.sched)) := by
  obtain ⟨a0, a1, a2, a3, a4, a5, a6⟩ := a
  obtain ⟨b0, b1, b2, b3, b4, b5, b6⟩ := b
  unfold fiveB
  rw [Bool.eq_iff_iff]; simp [and_assoc]
def VS (a : Vd) (x : Nat) (A1 A2 : Option Addr) (k1 k2 : Nat) (w : World) : Prop := w.cell? ⟨x, 0, none⟩ = some (.int .i64 a.kind) ∧ w.cell? ⟨x, 1, none⟩ = some (.int .i64 a.e) ∧ w.cell? ⟨x, 2, none⟩ = some (.int .i64 a.pos) ∧ w.cell? ⟨x, 3, none⟩ = some (.int .i64 a.paths) ∧ w.cell? ⟨x, 4, none⟩ = some (.int .i64 a.ends) ∧ w.cell? ⟨x, 5, none⟩ = some (.int .i64 a.bad.kind) ∧ w.cell? ⟨x, 6, none⟩ = some (.int .i64 a.bad.what) ∧ w.cell? ⟨x, 7, none⟩ = some (.int .i64 a.bad.crashes) ∧ w.cell? ⟨x, 8, none⟩ = some (.slice A1 a.bad.cells.length k1) ∧ w.cell? ⟨x, 9, none⟩ = some (.slice A2 a.sched.length k2)
theorem VdAt.all {a : Vd} {x : Nat} {A1 A2 : Option Addr} {k1 k2 : Nat} {w : World} (h : VdAt w x a (.slice A1 a.bad.cells.length k1) (.slice A2 a.sched.length k2)) : VS a x A1 A2 k1 k2 w :=
  ⟨h.c0, h.c1, h.c2, h.c3, h.c4, h.c5, h.c6, h.c7, h.c8, h.c9⟩
/-- the verdict's lists can be taken by the walks -/
structure VdOk (w : World) (v : Vd) (cv sv : Value) : Prop where
  cells : Zs w cv v.bad.cells
  sched : Pks w sv v.sched
  lc : v.bad.cells.length ≤ 100000000
  ls : v.sched.length ≤ 100000000
  lp : ∀ x ∈ v.sched, x.cut.length ≤ 100000000
theorem VdOk.below {w w' : World} {v : Vd} {cv sv : Value} (h : VdOk w v cv sv) (hb : Below w.heap.size w w') : VdOk w' v cv sv := ⟨SlN.below h.cells hb, h.sched.below hb, h.lc, h.ls, h.lp⟩
set_option maxRecDepth 100000 in
set_option maxHeartbeats 8000000 in
theorem pSameV_c (a b : Vd) (ca sa cb sb : Value) (w : World) (hA : VdOk w a ca sa) (hB : VdOk w b cb sb) :
    Calls Tryz.prog 14 #[vdV a ca sa, vdV b cb sb] w fun e w' => e = .returned (.bool (decide (a = b))) ∧ Below w.heap.size w w' := by
  obtain ⟨A1, k1, rfl, _⟩ := hA.cells.shape
  obtain ⟨A2, k2, rfl, _⟩ := hA.sched.shape
  obtain ⟨A3, k3, rfl, _⟩ := hB.cells.shape
  obtain ⟨A4, k4, rfl, _⟩ := hB.sched.shape
  have HN1 : Hid (∀ u, Calls Tryz.prog 37 #[vdV a (.slice A1 a.bad.cells.length k1) (.slice A2 a.sched.length k2)] u fun e w' => e = .returned (numsV a) ∧ Below u.heap.size u w') := fun u => nums_c a _ _ _ _ _ _ u
  have HN2 : Hid (∀ u, Calls Tryz.prog 37 #[vdV b (.slice A3 b.bad.cells.length k3) (.slice A4 b.sched.length k4)] u fun e w' => e = .returned (numsV b) ∧ Below u.heap.size u w') := fun u => nums_c b _ _ _ _ _ _ u
  have HE : Hid (∀ u, Below w.heap.size w u → Calls Tryz.prog 38 #[enV a.bad (.slice A1 a.bad.cells.length k1), enV b.bad (.slice A3 b.bad.cells.length k3)] u fun e w' => e = .returned (.bool (decide (a.bad = b.bad))) ∧ Below u.heap.size u w') := fun u hu => pSameE_c a.bad b.bad (by have := hA.lc; omega) (by have := hB.lc; omega) _ _ u (SlN.below hA.cells hu) (SlN.below hB.cells hu)
  have HP : Hid (∀ u, Below w.heap.size w u → Calls Tryz.prog 39 #[.slice A2 a.sched.length k2, .slice A4 b.sched.length k4] u fun e w' => e = .returned (.bool (decide (a.sched = b.sched))) ∧ Below u.heap.size u w') := fun u hu => pSame_c a.sched b.sched hA.ls hB.ls (fun x hx => by have := hA.lp x hx; omega) (fun x hx => by have := hB.lp x hx; omega) _ _ u (hA.sched.below hu) (hB.sched.below hu)
  clear hA hB
  have H1 := Lib.hid ((vdAt_new w a (.slice A1 a.bad.cells.length k1) (.slice A2 a.sched.length k2) 28).below (al _ (.cells (vdA b (.slice A3 b.bad.cells.length k3) (.slice A4 b.sched.length k4)) 28)))
  have h2 := vdAt_new (w.alloc (.cells (vdA a (.slice A1 a.bad.cells.length k1) (.slice A2 a.sched.length k2)) 28)) b (.slice A3 b.bad.cells.length k3) (.slice A4 b.sched.length k4) 28
  rw [World.size_alloc] at h2
  have H2 := Lib.hid h2
  have HB0 : Hid (Below w.heap.size w ((w.alloc (.cells (vdA a (.slice A1 a.bad.cells.length k1) (.slice A2 a.sched.length k2)) 28)).alloc (.cells (vdA b (.slice A3 b.bad.cells.length k3) (.slice A4 b.sched.length k4)) 28))) := balloc (al w _) _
  clear h2
  have hX : ∀ u : World, (binOp .eql 55 (numsV a) (numsV b)).run Tryz.prog u = .ok (.bool (fiveB a b)) u := fun u => bin_five _ _ _ _ _ _ _ _ _ _ u
  have hG : ∀ (o1 o2 : Operand) (u : World), (eqGuard .eql 55 o1 o2 (numsV a) (numsV b)).run Tryz.prog u = .ok () u := fun o1 o2 u => guard_five _ _ o1 o2 u
  have hV := vd_dec a b
  unfold vdV at HN1 HN2 ⊢
  unfold enV at HE
  generalize numsV a = x at HN1 hX hG
  generalize numsV b = y at HN2 hX hG
  generalize decide (a = b) = d at hV ⊢
  generalize decide (a.sched = b.sched) = d3 at hV HP
  have HEE := HE.out
  clear HE
  generalize fiveB a b = d1 at hV hX
  generalize decide (a.bad = b.bad) = d2 at hV HEE
  have HV := Lib.hid hV
  have HX := Lib.hid hX
  have HG := Lib.hid hG
  have HE := Lib.hid HEE
  clear hV hX hG HEE
  unfold vdA at H1 H2 HB0
  go_enter Tryz.func14, Tryz.ntmps14
  go_upto_region 2 with fail
  generalize World.alloc _ _ = U at H1 H2 HB0 ⊢
  have HK : Hid (∀ u, Below U.heap.size U u → VS a w.heap.size A1 A2 k1 k2 u ∧ VS b (w.heap.size + 1) A3 A4 k3 k4 u) := fun u hu => ⟨(H1.out.below hu).all, (H2.out.below hu).all⟩
  have hs0 := HK.out U (Below.refl _ _)
  unfold VS at hs0 HK
  obtain ⟨⟨p0, p1, p2, p3, p4, p5, p6, p7, p8, p9⟩, ⟨q0, q1, q2, q3, q4, q5, q6, q7, q8, q9⟩⟩ := hs0
  cases d1
  · have hX := HX.out
    have hG := HG.out
    refine wp_region_held_drew (S := (fun u => (u.cell? ⟨w.heap.size, 0, none⟩ = some (.int .i64 a.kind) ∧ u.cell? ⟨w.heap.size, 1, none⟩ = some (.int .i64 a.e) ∧ u.cell? ⟨w.heap.size, 2, none⟩ = some (.int .i64 a.pos) ∧ u.cell? ⟨w.heap.size, 3, none⟩ = some (.int .i64 a.paths) ∧ u.cell? ⟨w.heap.size, 4, none⟩ = some (.int .i64 a.ends) ∧ u.cell? ⟨w.heap.size, 5, none⟩ = some (.int .i64 a.bad.kind) ∧ u.cell? ⟨w.heap.size, 6, none⟩ = some (.int .i64 a.bad.what) ∧ u.cell? ⟨w.heap.size, 7, none⟩ = some (.int .i64 a.bad.crashes) ∧ u.cell? ⟨w.heap.size, 8, none⟩ = some (.slice A1 a.bad.cells.length k1) ∧ u.cell? ⟨w.heap.size, 9, none⟩ = some (.slice A2 a.sched.length k2)) ∧ (u.cell? ⟨w.heap.size + 1, 0, none⟩ = some (.int .i64 b.kind) ∧ u.cell? ⟨w.heap.size + 1, 1, none⟩ = some (.int .i64 b.e) ∧ u.cell? ⟨w.heap.size + 1, 2, none⟩ = some (.int .i64 b.pos) ∧ u.cell? ⟨w.heap.size + 1, 3, none⟩ = some (.int .i64 b.paths) ∧ u.cell? ⟨w.heap.size + 1, 4, none⟩ = some (.int .i64 b.ends) ∧ u.cell? ⟨w.heap.size + 1, 5, none⟩ = some (.int .i64 b.bad.kind) ∧ u.cell? ⟨w.heap.size + 1, 6, none⟩ = some (.int .i64 b.bad.what) ∧ u.cell? ⟨w.heap.size + 1, 7, none⟩ = some (.int .i64 b.bad.crashes) ∧ u.cell? ⟨w.heap.size + 1, 8, none⟩ = some (.slice A3 b.bad.cells.length k3) ∧ u.cell? ⟨w.heap.size + 1, 9, none⟩ = some (.slice A4 b.sched.length k4)))) (by kernel_rfl) (HK.out _ (by repeat (first | exact Below.refl _ _ | assumption | refine bdrN ?_ _ | refine bdr ?_))) (fun hHeld => ?_)
    refine wpAnyH_take (i := 0) (v := ?_) rfl (by kernel_rfl) (by kernel_rfl) (by kernel_rfl) (fun _ _ _ h => h) (Or.inl ⟨by rfl, ?_⟩) (by assumption) ?_
    rotate_left
    · intro w0 hSw
      (try dsimp only at hSw)
      go_simp
      (try with_reducible rfl)
    (try simp only [Act.put, List.getElem_toArray, List.getElem_cons_zero, List.setIfInBounds_toArray, List.set_cons_zero, List.set_cons_succ])
    refine wpAnyH_take (i := 1) (v := ?_) rfl (by kernel_rfl) (by kernel_rfl) (by kernel_rfl) (fun _ _ _ h => h) (Or.inl ⟨by rfl, ?_⟩) (by assumption) ?_
    rotate_left
    · intro w0 hSw
      (try dsimp only at hSw)
      go_simp
      (try with_reducible rfl)
    (try simp only [Act.put, List.getElem_toArray, List.getElem_cons_succ, List.getElem_cons_zero, List.setIfInBounds_toArray, List.set_cons_zero, List.set_cons_succ])
    refine wpAnyH_take (i := 3) (v := ?_) rfl (by kernel_rfl) (by kernel_rfl) (by kernel_rfl) (fun _ _ _ h => h) (Or.inl ⟨by rfl, ?_⟩) (by assumption) ?_
    rotate_left
    · intro w0 hSw
      (try dsimp only at hSw)
      go_simp
      (try with_reducible rfl)
    (try simp only [Act.put, List.getElem_toArray, List.getElem_cons_succ, List.getElem_cons_zero, List.setIfInBounds_toArray, List.set_cons_zero, List.set_cons_succ])
    refine wpAnyH_take (i := 4) (v := ?_) rfl (by kernel_rfl) (by kernel_rfl) (by kernel_rfl) (fun _ _ _ h => h) (Or.inl ⟨by rfl, ?_⟩) (by assumption) ?_
    rotate_left
    · intro w0 hSw
      (try dsimp only at hSw)
      go_simp
      (try with_reducible rfl)
    (try simp only [Act.put, List.getElem_toArray, List.getElem_cons_succ, List.getElem_cons_zero, List.setIfInBounds_toArray, List.set_cons_zero, List.set_cons_succ])
    clear hHeld
    refine wpAnyH_ready (rs := [2]) (by kernel_rfl) (by simp) ?_
    refine AllReadyH.cons rfl (fun K hK => ?_) AllReadyH.nil
    go_simp
    (with_reducible refine (HN1.out _).mono ?_)
    rintro e w2 ⟨rfl, hb2⟩
    have h2 : Below U.heap.size U w2 := bt (by repeat (first | exact Below.refl _ _ | assumption | refine bdrN ?_ _ | refine bdr ?_)) hb2
    clear hb2
    dsimp only
    refine hK.out _ _ (HK.out _ h2) (fun hHeld => ?_)
    clear hK K
    (try simp only [Act.put, List.getElem_toArray, List.getElem_cons_succ, List.getElem_cons_zero, List.setIfInBounds_toArray, List.set_cons_zero, List.set_cons_succ])
    clear hHeld
    refine wpAnyH_ready (rs := [5]) (by kernel_rfl) (by simp) ?_
    refine AllReadyH.cons rfl (fun K hK => ?_) AllReadyH.nil
    go_simp
    (with_reducible refine (HN2.out _).mono ?_)
    rintro e w3 ⟨rfl, hb3⟩
    have h3 : Below U.heap.size U w3 := bt h2 hb3
    clear hb3 h2
    dsimp only
    refine hK.out _ _ (HK.out _ h3) (fun hHeld => ?_)
    clear hK K
    (try simp only [Act.put, List.getElem_toArray, List.getElem_cons_succ, List.getElem_cons_zero, List.setIfInBounds_toArray, List.set_cons_zero, List.set_cons_succ])
    refine wpAnyH_take (i := 6) (v := ?_) rfl (by kernel_rfl) (by kernel_rfl) (by kernel_rfl) (fun _ _ _ h => h) (Or.inl ⟨by rfl, ?_⟩) (by assumption) ?_
    rotate_left
    · intro w0 hSw
      (try dsimp only at hSw)
      go_simp
      (try with_reducible rfl)
    (try simp only [Act.put, List.getElem_toArray, List.getElem_cons_succ, List.getElem_cons_zero, List.setIfInBounds_toArray, List.set_cons_zero, List.set_cons_succ])
    refine wpAnyH_take (i := 7) (v := ?_) rfl (by kernel_rfl) (by kernel_rfl) (by kernel_rfl) (fun _ _ _ h => h) (Or.inl ⟨by rfl, ?_⟩) (by assumption) ?_
    rotate_left
    · intro w0 hSw
      (try dsimp only at hSw)
      go_simp
      (try with_reducible rfl)
    (try simp only [Act.put, List.getElem_toArray, List.getElem_cons_succ, List.getElem_cons_zero, List.setIfInBounds_toArray, List.set_cons_zero, List.set_cons_succ])
    refine wpAnyH_take (i := 8) (v := undef) rfl (by kernel_rfl) (by kernel_rfl) (by kernel_rfl) (fun _ _ _ h => h) (Or.inr ⟨by rfl, rfl⟩) (by assumption) ?_
    (try simp only [Act.put, List.getElem_toArray, List.getElem_cons_succ, List.getElem_cons_zero, List.setIfInBounds_toArray, List.set_cons_zero, List.set_cons_succ])
    refine wpAnyH_take (i := 9) (v := undef) rfl (by kernel_rfl) (by kernel_rfl) (by kernel_rfl) (fun _ _ _ h => h) (Or.inr ⟨by rfl, rfl⟩) (by assumption) ?_
    (try simp only [Act.put, List.getElem_toArray, List.getElem_cons_succ, List.getElem_cons_zero, List.setIfInBounds_toArray, List.set_cons_zero, List.set_cons_succ])
    refine wpAnyH_take (i := 10) (v := undef) rfl (by kernel_rfl) (by kernel_rfl) (by kernel_rfl) (fun _ _ _ h => h) (Or.inr ⟨by rfl, rfl⟩) (by assumption) ?_
    (try simp only [Act.put, List.getElem_toArray, List.getElem_cons_succ, List.getElem_cons_zero, List.setIfInBounds_toArray, List.set_cons_zero, List.set_cons_succ])
    refine wpAnyH_take (i := 11) (v := undef) rfl (by kernel_rfl) (by kernel_rfl) (by kernel_rfl) (fun _ _ _ h => h) (Or.inr ⟨by rfl, rfl⟩) (by assumption) ?_
    (try simp only [Act.put, List.getElem_toArray, List.getElem_cons_succ, List.getElem_cons_zero, List.setIfInBounds_toArray, List.set_cons_zero, List.set_cons_succ])
    refine wpAnyH_take (i := 12) (v := undef) rfl (by kernel_rfl) (by kernel_rfl) (by kernel_rfl) (fun _ _ _ h => h) (Or.inr ⟨by rfl, rfl⟩) (by assumption) ?_
    (try simp only [Act.put, List.getElem_toArray, List.getElem_cons_succ, List.getElem_cons_zero, List.setIfInBounds_toArray, List.set_cons_zero, List.set_cons_succ])
    refine wpAnyH_take (i := 13) (v := ?_) rfl (by kernel_rfl) (by kernel_rfl) (by kernel_rfl) (fun _ _ _ h => h) (Or.inl ⟨by rfl, ?_⟩) (by assumption) ?_
    rotate_left
    · intro w0 hSw
      (try dsimp only at hSw)
      go_simp
      (try with_reducible rfl)
    (try simp only [Act.put, List.getElem_toArray, List.getElem_cons_succ, List.getElem_cons_zero, List.setIfInBounds_toArray, List.set_cons_zero, List.set_cons_succ])
    refine wpAnyH_take (i := 14) (v := ?_) rfl (by kernel_rfl) (by kernel_rfl) (by kernel_rfl) (fun _ _ _ h => h) (Or.inl ⟨by rfl, ?_⟩) (by assumption) ?_
    rotate_left
    · intro w0 hSw
      (try dsimp only at hSw)
      go_simp
      (try with_reducible rfl)
    (try simp only [Act.put, List.getElem_toArray, List.getElem_cons_succ, List.getElem_cons_zero, List.setIfInBounds_toArray, List.set_cons_zero, List.set_cons_succ])
    refine wpAnyH_take (i := 15) (v := undef) rfl (by kernel_rfl) (by kernel_rfl) (by kernel_rfl) (fun _ _ _ h => h) (Or.inr ⟨by rfl, rfl⟩) (by assumption) ?_
    (try simp only [Act.put, List.getElem_toArray, List.getElem_cons_succ, List.getElem_cons_zero, List.setIfInBounds_toArray, List.set_cons_zero, List.set_cons_succ])
    refine wpAnyH_take (i := 16) (v := undef) rfl (by kernel_rfl) (by kernel_rfl) (by kernel_rfl) (fun _ _ _ h => h) (Or.inr ⟨by rfl, rfl⟩) (by assumption) ?_
    (try simp only [Act.put, List.getElem_toArray, List.getElem_cons_succ, List.getElem_cons_zero, List.setIfInBounds_toArray, List.set_cons_zero, List.set_cons_succ])
    refine wpAnyH_take (i := 17) (v := undef) rfl (by kernel_rfl) (by kernel_rfl) (by kernel_rfl) (fun _ _ _ h => h) (Or.inr ⟨by rfl, rfl⟩) (by assumption) ?_
    (try simp only [Act.put, List.getElem_toArray, List.getElem_cons_succ, List.getElem_cons_zero, List.setIfInBounds_toArray, List.set_cons_zero, List.set_cons_succ])
    refine wpAnyH_take (i := 18) (v := undef) rfl (by kernel_rfl) (by kernel_rfl) (by kernel_rfl) (fun _ _ _ h => h) (Or.inr ⟨by rfl, rfl⟩) (by assumption) ?_
    (try simp only [Act.put, List.getElem_toArray, List.getElem_cons_succ, List.getElem_cons_zero, List.setIfInBounds_toArray, List.set_cons_zero, List.set_cons_succ])
    refine wpAnyH_take (i := 19) (v := undef) rfl (by kernel_rfl) (by kernel_rfl) (by kernel_rfl) (fun _ _ _ h => h) (Or.inr ⟨by rfl, rfl⟩) (by assumption) ?_
    (try simp only [Act.put, List.getElem_toArray, List.getElem_cons_succ, List.getElem_cons_zero, List.setIfInBounds_toArray, List.set_cons_zero, List.set_cons_succ])
    refine wpAnyH_take (i := 20) (v := ?_) rfl (by kernel_rfl) (by kernel_rfl) (by kernel_rfl) (fun _ _ _ h => h) (Or.inl ⟨by rfl, ?_⟩) (by assumption) ?_
    rotate_left
    · intro w0 hSw
      (try dsimp only at hSw)
      go_simp
      (try with_reducible rfl)
    (try simp only [Act.put, List.getElem_toArray, List.getElem_cons_succ, List.getElem_cons_zero, List.setIfInBounds_toArray, List.set_cons_zero, List.set_cons_succ])
    refine wpAnyH_take (i := 21) (v := ?_) rfl (by kernel_rfl) (by kernel_rfl) (by kernel_rfl) (fun _ _ _ h => h) (Or.inl ⟨by rfl, ?_⟩) (by assumption) ?_
    rotate_left
    · intro w0 hSw
      (try dsimp only at hSw)
      go_simp
      (try with_reducible rfl)
    (try simp only [Act.put, List.getElem_toArray, List.getElem_cons_succ, List.getElem_cons_zero, List.setIfInBounds_toArray, List.set_cons_zero, List.set_cons_succ])
    refine wpAnyH_done (by kernel_rfl) ?_ _
    go_wp2_with fail
    go_ret
    exact ⟨ret_bool (by rw [HV.out]; rfl), bt HB0.out h3⟩
  · cases d2
    · have hX := HX.out
      have hG := HG.out
      refine wp_region_held_drew (S := (fun u => (u.cell? ⟨w.heap.size, 0, none⟩ = some (.int .i64 a.kind) ∧ u.cell? ⟨w.heap.size, 1, none⟩ = some (.int .i64 a.e) ∧ u.cell? ⟨w.heap.size, 2, none⟩ = some (.int .i64 a.pos) ∧ u.cell? ⟨w.heap.size, 3, none⟩ = some (.int .i64 a.paths) ∧ u.cell? ⟨w.heap.size, 4, none⟩ = some (.int .i64 a.ends) ∧ u.cell? ⟨w.heap.size, 5, none⟩ = some (.int .i64 a.bad.kind) ∧ u.cell? ⟨w.heap.size, 6, none⟩ = some (.int .i64 a.bad.what) ∧ u.cell? ⟨w.heap.size, 7, none⟩ = some (.int .i64 a.bad.crashes) ∧ u.cell? ⟨w.heap.size, 8, none⟩ = some (.slice A1 a.bad.cells.length k1) ∧ u.cell? ⟨w.heap.size, 9, none⟩ = some (.slice A2 a.sched.length k2)) ∧ (u.cell? ⟨w.heap.size + 1, 0, none⟩ = some (.int .i64 b.kind) ∧ u.cell? ⟨w.heap.size + 1, 1, none⟩ = some (.int .i64 b.e) ∧ u.cell? ⟨w.heap.size + 1, 2, none⟩ = some (.int .i64 b.pos) ∧ u.cell? ⟨w.heap.size + 1, 3, none⟩ = some (.int .i64 b.paths) ∧ u.cell? ⟨w.heap.size + 1, 4, none⟩ = some (.int .i64 b.ends) ∧ u.cell? ⟨w.heap.size + 1, 5, none⟩ = some (.int .i64 b.bad.kind) ∧ u.cell? ⟨w.heap.size + 1, 6, none⟩ = some (.int .i64 b.bad.what) ∧ u.cell? ⟨w.heap.size + 1, 7, none⟩ = some (.int .i64 b.bad.crashes) ∧ u.cell? ⟨w.heap.size + 1, 8, none⟩ = some (.slice A3 b.bad.cells.length k3) ∧ u.cell? ⟨w.heap.size + 1, 9, none⟩ = some (.slice A4 b.sched.length k4)))) (by kernel_rfl) (HK.out _ (by repeat (first | exact Below.refl _ _ | assumption | refine bdrN ?_ _ | refine bdr ?_))) (fun hHeld => ?_)
      refine wpAnyH_take (i := 0) (v := ?_) rfl (by kernel_rfl) (by kernel_rfl) (by kernel_rfl) (fun _ _ _ h => h) (Or.inl ⟨by rfl, ?_⟩) (by assumption) ?_
      rotate_left
      · intro w0 hSw
        (try dsimp only at hSw)
        go_simp
        (try with_reducible rfl)
      (try simp only [Act.put, List.getElem_toArray, List.getElem_cons_zero, List.setIfInBounds_toArray, List.set_cons_zero, List.set_cons_succ])
      refine wpAnyH_take (i := 1) (v := ?_) rfl (by kernel_rfl) (by kernel_rfl) (by kernel_rfl) (fun _ _ _ h => h) (Or.inl ⟨by rfl, ?_⟩) (by assumption) ?_
      rotate_left
      · intro w0 hSw
        (try dsimp only at hSw)
        go_simp
        (try with_reducible rfl)
      (try simp only [Act.put, List.getElem_toArray, List.getElem_cons_succ, List.getElem_cons_zero, List.setIfInBounds_toArray, List.set_cons_zero, List.set_cons_succ])
      refine wpAnyH_take (i := 3) (v := ?_) rfl (by kernel_rfl) (by kernel_rfl) (by kernel_rfl) (fun _ _ _ h => h) (Or.inl ⟨by rfl, ?_⟩) (by assumption) ?_
      rotate_left
      · intro w0 hSw
        (try dsimp only at hSw)
        go_simp
        (try with_reducible rfl)
      (try simp only [Act.put, List.getElem_toArray, List.getElem_cons_succ, List.getElem_cons_zero, List.setIfInBounds_toArray, List.set_cons_zero, List.set_cons_succ])
      refine wpAnyH_take (i := 4) (v := ?_) rfl (by kernel_rfl) (by kernel_rfl) (by kernel_rfl) (fun _ _ _ h => h) (Or.inl ⟨by rfl, ?_⟩) (by assumption) ?_
      rotate_left
      · intro w0 hSw
        (try dsimp only at hSw)
        go_simp
        (try with_reducible rfl)
      (try simp only [Act.put, List.getElem_toArray, List.getElem_cons_succ, List.getElem_cons_zero, List.setIfInBounds_toArray, List.set_cons_zero, List.set_cons_succ])
      clear hHeld
      refine wpAnyH_ready (rs := [2]) (by kernel_rfl) (by simp) ?_
      refine AllReadyH.cons rfl (fun K hK => ?_) AllReadyH.nil
      go_simp
      (with_reducible refine (HN1.out _).mono ?_)
      rintro e w2 ⟨rfl, hb2⟩
      have h2 : Below U.heap.size U w2 := bt (by repeat (first | exact Below.refl _ _ | assumption | refine bdrN ?_ _ | refine bdr ?_)) hb2
      clear hb2
      dsimp only
      refine hK.out _ _ (HK.out _ h2) (fun hHeld => ?_)
      clear hK K
      (try simp only [Act.put, List.getElem_toArray, List.getElem_cons_succ, List.getElem_cons_zero, List.setIfInBounds_toArray, List.set_cons_zero, List.set_cons_succ])
      clear hHeld
      refine wpAnyH_ready (rs := [5]) (by kernel_rfl) (by simp) ?_
      refine AllReadyH.cons rfl (fun K hK => ?_) AllReadyH.nil
      go_simp
      (with_reducible refine (HN2.out _).mono ?_)
      rintro e w3 ⟨rfl, hb3⟩
      have h3 : Below U.heap.size U w3 := bt h2 hb3
      clear hb3 h2
      dsimp only
      refine hK.out _ _ (HK.out _ h3) (fun hHeld => ?_)
      clear hK K
      (try simp only [Act.put, List.getElem_toArray, List.getElem_cons_succ, List.getElem_cons_zero, List.setIfInBounds_toArray, List.set_cons_zero, List.set_cons_succ])
      refine wpAnyH_take (i := 6) (v := ?_) rfl (by kernel_rfl) (by kernel_rfl) (by kernel_rfl) (fun _ _ _ h => h) (Or.inl ⟨by rfl, ?_⟩) (by assumption) ?_
      rotate_left
      · intro w0 hSw
        (try dsimp only at hSw)
        go_simp
        (try with_reducible rfl)
      (try simp only [Act.put, List.getElem_toArray, List.getElem_cons_succ, List.getElem_cons_zero, List.setIfInBounds_toArray, List.set_cons_zero, List.set_cons_succ])
      refine wpAnyH_take (i := 7) (v := ?_) rfl (by kernel_rfl) (by kernel_rfl) (by kernel_rfl) (fun _ _ _ h => h) (Or.inl ⟨by rfl, ?_⟩) (by assumption) ?_
      rotate_left
      · intro w0 hSw
        (try dsimp only at hSw)
        go_simp
        (try with_reducible rfl)
      (try simp only [Act.put, List.getElem_toArray, List.getElem_cons_succ, List.getElem_cons_zero, List.setIfInBounds_toArray, List.set_cons_zero, List.set_cons_succ])
      refine wpAnyH_take (i := 8) (v := ?_) rfl (by kernel_rfl) (by kernel_rfl) (by kernel_rfl) (fun _ _ _ h => h) (Or.inl ⟨by rfl, ?_⟩) (by assumption) ?_
      rotate_left
      · intro w0 hSw
        (try dsimp only at hSw)
        go_simp
        (try with_reducible rfl)
      (try simp only [Act.put, List.getElem_toArray, List.getElem_cons_succ, List.getElem_cons_zero, List.setIfInBounds_toArray, List.set_cons_zero, List.set_cons_succ])
      refine wpAnyH_take (i := 9) (v := ?_) rfl (by kernel_rfl) (by kernel_rfl) (by kernel_rfl) (fun _ _ _ h => h) (Or.inl ⟨by rfl, ?_⟩) (by assumption) ?_
      rotate_left
      · intro w0 hSw
        (try dsimp only at hSw)
        go_simp
        (try with_reducible rfl)
      (try simp only [Act.put, List.getElem_toArray, List.getElem_cons_succ, List.getElem_cons_zero, List.setIfInBounds_toArray, List.set_cons_zero, List.set_cons_succ])
      refine wpAnyH_take (i := 10) (v := ?_) rfl (by kernel_rfl) (by kernel_rfl) (by kernel_rfl) (fun _ _ _ h => h) (Or.inl ⟨by rfl, ?_⟩) (by assumption) ?_
      rotate_left
      · intro w0 hSw
        (try dsimp only at hSw)
        go_simp
        (try with_reducible rfl)
      (try simp only [Act.put, List.getElem_toArray, List.getElem_cons_succ, List.getElem_cons_zero, List.setIfInBounds_toArray, List.set_cons_zero, List.set_cons_succ])
      refine wpAnyH_take (i := 11) (v := ?_) rfl (by kernel_rfl) (by kernel_rfl) (by kernel_rfl) (fun _ _ _ h => h) (Or.inl ⟨by rfl, ?_⟩) (by assumption) ?_
      rotate_left
      · intro w0 hSw
        (try dsimp only at hSw)
        go_simp
        (try with_reducible rfl)
      (try simp only [Act.put, List.getElem_toArray, List.getElem_cons_succ, List.getElem_cons_zero, List.setIfInBounds_toArray, List.set_cons_zero, List.set_cons_succ])
      clear hHeld
      refine wpAnyH_ready (rs := [12]) (by kernel_rfl) (by simp) ?_
      refine AllReadyH.cons rfl (fun K hK => ?_) AllReadyH.nil
      go_simp
      (with_reducible refine (HE.out _ (bt HB0.out h3)).mono ?_)
      rintro e w4 ⟨rfl, hb4⟩
      have h4 : Below U.heap.size U w4 := bt h3 hb4
      clear hb4 h3
      dsimp only
      refine hK.out _ _ (HK.out _ h4) (fun hHeld => ?_)
      clear hK K
      (try simp only [Act.put, List.getElem_toArray, List.getElem_cons_succ, List.getElem_cons_zero, List.setIfInBounds_toArray, List.set_cons_zero, List.set_cons_succ])
      refine wpAnyH_take (i := 13) (v := ?_) rfl (by kernel_rfl) (by kernel_rfl) (by kernel_rfl) (fun _ _ _ h => h) (Or.inl ⟨by rfl, ?_⟩) (by assumption) ?_
      rotate_left
      · intro w0 hSw
        (try dsimp only at hSw)
        go_simp
        (try with_reducible rfl)
      (try simp only [Act.put, List.getElem_toArray, List.getElem_cons_succ, List.getElem_cons_zero, List.setIfInBounds_toArray, List.set_cons_zero, List.set_cons_succ])
      refine wpAnyH_take (i := 14) (v := ?_) rfl (by kernel_rfl) (by kernel_rfl) (by kernel_rfl) (fun _ _ _ h => h) (Or.inl ⟨by rfl, ?_⟩) (by assumption) ?_
      rotate_left
      · intro w0 hSw
        (try dsimp only at hSw)
        go_simp
        (try with_reducible rfl)
      (try simp only [Act.put, List.getElem_toArray, List.getElem_cons_succ, List.getElem_cons_zero, List.setIfInBounds_toArray, List.set_cons_zero, List.set_cons_succ])
      refine wpAnyH_take (i := 15) (v := undef) rfl (by kernel_rfl) (by kernel_rfl) (by kernel_rfl) (fun _ _ _ h => h) (Or.inr ⟨by rfl, rfl⟩) (by assumption) ?_
      (try simp only [Act.put, List.getElem_toArray, List.getElem_cons_succ, List.getElem_cons_zero, List.setIfInBounds_toArray, List.set_cons_zero, List.set_cons_succ])
      refine wpAnyH_take (i := 16) (v := undef) rfl (by kernel_rfl) (by kernel_rfl) (by kernel_rfl) (fun _ _ _ h => h) (Or.inr ⟨by rfl, rfl⟩) (by assumption) ?_
      (try simp only [Act.put, List.getElem_toArray, List.getElem_cons_succ, List.getElem_cons_zero, List.setIfInBounds_toArray, List.set_cons_zero, List.set_cons_succ])
      refine wpAnyH_take (i := 17) (v := undef) rfl (by kernel_rfl) (by kernel_rfl) (by kernel_rfl) (fun _ _ _ h => h) (Or.inr ⟨by rfl, rfl⟩) (by assumption) ?_
      (try simp only [Act.put, List.getElem_toArray, List.getElem_cons_succ, List.getElem_cons_zero, List.setIfInBounds_toArray, List.set_cons_zero, List.set_cons_succ])
      refine wpAnyH_take (i := 18) (v := undef) rfl (by kernel_rfl) (by kernel_rfl) (by kernel_rfl) (fun _ _ _ h => h) (Or.inr ⟨by rfl, rfl⟩) (by assumption) ?_
      (try simp only [Act.put, List.getElem_toArray, List.getElem_cons_succ, List.getElem_cons_zero, List.setIfInBounds_toArray, List.set_cons_zero, List.set_cons_succ])
      refine wpAnyH_take (i := 19) (v := undef) rfl (by kernel_rfl) (by kernel_rfl) (by kernel_rfl) (fun _ _ _ h => h) (Or.inr ⟨by rfl, rfl⟩) (by assumption) ?_
      (try simp only [Act.put, List.getElem_toArray, List.getElem_cons_succ, List.getElem_cons_zero, List.setIfInBounds_toArray, List.set_cons_zero, List.set_cons_succ])
      refine wpAnyH_take (i := 20) (v := ?_) rfl (by kernel_rfl) (by kernel_rfl) (by kernel_rfl) (fun _ _ _ h => h) (Or.inl ⟨by rfl, ?_⟩) (by assumption) ?_
      rotate_left
      · intro w0 hSw
        (try dsimp only at hSw)
        go_simp
        (try with_reducible rfl)
      (try simp only [Act.put, List.getElem_toArray, List.getElem_cons_succ, List.getElem_cons_zero, List.setIfInBounds_toArray, List.set_cons_zero, List.set_cons_succ])
      refine wpAnyH_take (i := 21) (v := ?_) rfl (by kernel_rfl) (by kernel_rfl) (by kernel_rfl) (fun _ _ _ h => h) (Or.inl ⟨by rfl, ?_⟩) (by assumption) ?_
      rotate_left
      · intro w0 hSw
        (try dsimp only at hSw)
        go_simp
        (try with_reducible rfl)
      (try simp only [Act.put, List.getElem_toArray, List.getElem_cons_succ, List.getElem_cons_zero, List.setIfInBounds_toArray, List.set_cons_zero, List.set_cons_succ])
      refine wpAnyH_done (by kernel_rfl) ?_ _
      go_wp2_with fail
      go_ret
      exact ⟨ret_bool (by rw [HV.out]; rfl), bt HB0.out h4⟩
    · have hX := HX.out
      have hG := HG.out
      go_region_held3 (fun u => (u.cell? ⟨w.heap.size, 0, none⟩ = some (.int .i64 a.kind) ∧ u.cell? ⟨w.heap.size, 1, none⟩ = some (.int .i64 a.e) ∧ u.cell? ⟨w.heap.size, 2, none⟩ = some (.int .i64 a.pos) ∧ u.cell? ⟨w.heap.size, 3, none⟩ = some (.int .i64 a.paths) ∧ u.cell? ⟨w.heap.size, 4, none⟩ = some (.int .i64 a.ends) ∧ u.cell? ⟨w.heap.size, 5, none⟩ = some (.int .i64 a.bad.kind) ∧ u.cell? ⟨w.heap.size, 6, none⟩ = some (.int .i64 a.bad.what) ∧ u.cell? ⟨w.heap.size, 7, none⟩ = some (.int .i64 a.bad.crashes) ∧ u.cell? ⟨w.heap.size, 8, none⟩ = some (.slice A1 a.bad.cells.length k1) ∧ u.cell? ⟨w.heap.size, 9, none⟩ = some (.slice A2 a.sched.length k2)) ∧ (u.cell? ⟨w.heap.size + 1, 0, none⟩ = some (.int .i64 b.kind) ∧ u.cell? ⟨w.heap.size + 1, 1, none⟩ = some (.int .i64 b.e) ∧ u.cell? ⟨w.heap.size + 1, 2, none⟩ = some (.int .i64 b.pos) ∧ u.cell? ⟨w.heap.size + 1, 3, none⟩ = some (.int .i64 b.paths) ∧ u.cell? ⟨w.heap.size + 1, 4, none⟩ = some (.int .i64 b.ends) ∧ u.cell? ⟨w.heap.size + 1, 5, none⟩ = some (.int .i64 b.bad.kind) ∧ u.cell? ⟨w.heap.size + 1, 6, none⟩ = some (.int .i64 b.bad.what) ∧ u.cell? ⟨w.heap.size + 1, 7, none⟩ = some (.int .i64 b.bad.crashes) ∧ u.cell? ⟨w.heap.size + 1, 8, none⟩ = some (.slice A3 b.bad.cells.length k3) ∧ u.cell? ⟨w.heap.size + 1, 9, none⟩ = some (.slice A4 b.sched.length k4)))
        (exact HK.out _ (by repeat (first | exact Below.refl _ _ | assumption | refine bdrN ?_ _ | refine bdr ?_)))
        (first
          | (go_at_call 37; (with_reducible refine (HN1.out _).mono ?_); rintro e w2 ⟨rfl, hb2⟩; have h2 : Below U.heap.size U w2 := bt (by repeat (first | exact Below.refl _ _ | assumption | refine bdrN ?_ _ | refine bdr ?_)) hb2; clear hb2)
          | (go_at_call 37; (with_reducible refine (HN2.out _).mono ?_); rintro e w3 ⟨rfl, hb3⟩; have h3 : Below U.heap.size U w3 := bt h2 hb3; clear hb3 h2)
          | (go_at_call 38; (with_reducible refine (HE.out _ (bt HB0.out h3)).mono ?_); rintro e w4 ⟨rfl, hb4⟩; have h4 : Below U.heap.size U w4 := bt h3 hb4; clear hb4 h3)
          | (go_at_call 39; (with_reducible refine (HP.out _ (bt HB0.out h4)).mono ?_); rintro e w5 ⟨rfl, hb5⟩; have h5 : Below U.heap.size U w5 := bt h4 hb5; clear hb5 h4))
      all_goals
        go_wp2_with fail
        go_ret
        exact ⟨ret_bool (by rw [HV.out]; rfl), bt HB0.out h5⟩
end Go.Proofs.YtcgcndmlgfnjbaaGreatDoor
/- Whether two verdicts are alike: the reference's walk; whether a verdict may be: the program's walk. -/
namespace Go.Proofs.YtcgcndmlgfnjbaaGreatDoor
open Go Go.RowKit
set_option linter.unusedVariables false
set_option maxRecDepth 100000 in
set_option maxHeartbeats 8000000 in
theorem rSameV_c (a b : Vd) (ca sa cb sb : Value) (w : World) (hA : VdOk w a ca sa) (hB : VdOk w b cb sb) :
    Calls Tryz.prog 15 #[vdV a ca sa, vdV b cb sb] w fun e w' => e = .returned (.bool (decide (a = b))) ∧ Below w.heap.size w w' := by
  obtain ⟨A1, k1, rfl, _⟩ := hA.cells.shape
  obtain ⟨A2, k2, rfl, _⟩ := hA.sched.shape
  obtain ⟨A3, k3, rfl, _⟩ := hB.cells.shape
  obtain ⟨A4, k4, rfl, _⟩ := hB.sched.shape
  have hE : ∀ u, Below w.heap.size w u → Calls Tryz.prog 28 #[enV a.bad (.slice A1 a.bad.cells.length k1), enV b.bad (.slice A3 b.bad.cells.length k3)] u fun e w' => e = .returned (.bool (decide (a.bad = b.bad))) ∧ Below u.heap.size u w' := fun u hu => rSameE_c a.bad b.bad (by have := hA.lc; omega) (by have := hB.lc; omega) _ _ u (SlN.below hA.cells hu) (SlN.below hB.cells hu)
  have hP : ∀ u, Below w.heap.size w u → Calls Tryz.prog 40 #[.slice A2 a.sched.length k2, .slice A4 b.sched.length k4] u fun e w' => e = .returned (.bool (decide (a.sched = b.sched))) ∧ Below u.heap.size u w' := fun u hu => by
    refine (rPicks_c a.sched b.sched hA.ls hB.ls (fun x hx => by have := hA.lp x hx; omega) (fun x hx => by have := hB.lp x hx; omega) _ _ u (hA.sched.below hu) (hB.sched.below hu)).mono ?_
    rintro e w' ⟨he, q, rfl⟩
    exact ⟨he, bdrN (Below.refl _ _) _⟩
  clear hA hB
  have H1 := Lib.hid ((vdAt_new w a (.slice A1 a.bad.cells.length k1) (.slice A2 a.sched.length k2) 28).below (al _ (.cells (vdA b (.slice A3 b.bad.cells.length k3) (.slice A4 b.sched.length k4)) 28)))
  have h2 := vdAt_new (w.alloc (.cells (vdA a (.slice A1 a.bad.cells.length k1) (.slice A2 a.sched.length k2)) 28)) b (.slice A3 b.bad.cells.length k3) (.slice A4 b.sched.length k4) 28
  rw [World.size_alloc] at h2
  have H2 := Lib.hid h2
  have HB0 : Hid (Below w.heap.size w ((w.alloc (.cells (vdA a (.slice A1 a.bad.cells.length k1) (.slice A2 a.sched.length k2)) 28)).alloc (.cells (vdA b (.slice A3 b.bad.cells.length k3) (.slice A4 b.sched.length k4)) 28))) := balloc (al w _) _
  clear h2
  have hV := vd_dec a b
  unfold fiveB at hV
  unfold vdV
  unfold enV at hE
  unfold vdA at H1 H2 HB0
  generalize decide (a = b) = d at hV ⊢
  generalize decide (a.sched = b.sched) = d3 at hV hP
  generalize decide (a.bad = b.bad) = d2 at hV hE
  have HP := Lib.hid hP
  have HE := Lib.hid hE
  clear hP hE
  go_enter Tryz.func15, Tryz.ntmps15
  go_upto_region 1 with fail
  generalize World.alloc _ _ = U at H1 H2 HB0 ⊢
  have HK : Hid (∀ u, Below U.heap.size U u → VS a w.heap.size A1 A2 k1 k2 u ∧ VS b (w.heap.size + 1) A3 A4 k3 k4 u) := fun u hu => ⟨(H1.out.below hu).all, (H2.out.below hu).all⟩
  have hs0 := HK.out U (Below.refl _ _)
  unfold VS at hs0 HK
  obtain ⟨⟨p0, p1, p2, p3, p4, p5, p6, p7, p8, p9⟩, ⟨q0, q1, q2, q3, q4, q5, q6, q7, q8, q9⟩⟩ := hs0
  by_cases e0 : (a.kind == b.kind) = true ∧ (a.e == b.e) = true ∧ (a.pos == b.pos) = true ∧ (a.paths == b.paths) = true ∧ (a.ends == b.ends) = true
  · obtain ⟨e0, e1, e2, e3, e4⟩ := e0
    rw [e0, e1, e2, e3, e4] at hV
    have HV := Lib.hid hV
    clear hV
    cases d2
    · go_wp2_with (first
        | (go_at_call 28; (with_reducible refine (HE.out _ HB0.out).mono ?_); rintro e w2 ⟨rfl, hb2⟩))
      go_ret
      exact ⟨ret_bool (by rw [HV.out]; rfl), bt HB0.out hb2⟩
    · go_wp2_with (first
        | (go_at_call 28; (with_reducible refine (HE.out _ HB0.out).mono ?_); rintro e w2 ⟨rfl, hb2⟩; obtain ⟨⟨p0', p1', p2', p3', p4', p5', p6', p7', p8', p9'⟩, ⟨q0', q1', q2', q3', q4', q5', q6', q7', q8', q9'⟩⟩ := HK.out _ hb2)
        | (go_at_call 40; (with_reducible refine (HP.out _ (bt HB0.out hb2)).mono ?_); rintro e w3 ⟨rfl, hb3⟩))
      go_ret
      exact ⟨ret_bool (by rw [HV.out]; rfl), bt (bt HB0.out hb2) hb3⟩
  · have hf : d = false := by
      rw [hV]
      cases h0 : (a.kind == b.kind)
      · rfl
      · cases h1 : (a.e == b.e)
        · rfl
        · cases h2 : (a.pos == b.pos)
          · rfl
          · cases h3 : (a.paths == b.paths)
            · rfl
            · cases h4 : (a.ends == b.ends)
              · rfl
              · exact absurd ⟨h0, h1, h2, h3, h4⟩ e0
    clear hV
    subst hf
    cases h0 : (a.kind == b.kind)
    · go_wp2_with fail
      go_ret
      exact ⟨rfl, HB0.out⟩
    · cases h1 : (a.e == b.e)
      · go_wp2_with fail
        go_ret
        exact ⟨rfl, HB0.out⟩
      · cases h2 : (a.pos == b.pos)
        · go_wp2_with fail
          go_ret
          exact ⟨rfl, HB0.out⟩
        · cases h3 : (a.paths == b.paths)
          · go_wp2_with fail
            go_ret
            exact ⟨rfl, HB0.out⟩
          · cases h4 : (a.ends == b.ends)
            · go_wp2_with fail
              go_ret
              exact ⟨rfl, HB0.out⟩
            · exact absurd ⟨h0, h1, h2, h3, h4⟩ e0
end Go.Proofs.YtcgcndmlgfnjbaaGreatDoor

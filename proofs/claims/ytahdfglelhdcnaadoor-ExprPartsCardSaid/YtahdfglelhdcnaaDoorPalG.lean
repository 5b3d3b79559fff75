/- The program's parser: what binds most: tools. -/
import Derived.Test.YtahdfglelhdcnaaDoorPalD
import Derived.Test.YtahdfglelhdcnaaDoorParE
import Derived.Deep.AppendLies
namespace Go.Proofs.YtahdfglelhdcnaaDoor
open Go Go.RowKit
set_option linter.unusedVariables false
/-- an own row grows by what any readable slice holds: at the operation -/
theorem wp_app {P : Program} {w : World} {o : Oper} {a : Act} {K : Act → World → Prop} {Q : Exit → Act → World → Prop} (s x : Operand) (t : TypeId)
    (ho : o.op = .call { callee := .builtin .append, args := #[s, x], argTypes := #[t, t] })
    (base : Nat) (e : TypeId) (i : TypeInfo) (z : Value) (size bytes : Nat) (ht : P.underlying t = some (.slice e)) (hi : P.info? e = some i) (hz : i.zero = some z)
    (hsize : i.size = size) (hby : i.bytes = bytes) (hzs : z.cells.size = size) (hsz : 0 < size)
    (v : Value) (n : Nat) (xs : List Value) (hs : a.eval s = v) (hown : w.ownsRow base e size v n xs)
    (u : Value) (m : Nat) (news : List Value) (hx : a.eval x = u) (hu : SlN w u size m news) (h1 : ∀ u ∈ news, u.oneCell' = true)
    (h63 : n + m ≤ maxLen) (hbytes : (n + m) * bytes ≤ 140737488355328) (hbase : base ≤ w.heap.size)
    (h : ∀ v' w', w'.ownsRow base e size v' (n + m) (xs ++ news) → Below base w w' → K (a.put o.dst v') w') : o.wp P a w K Q := by
  obtain ⟨hl, A, c, rfl, hc, hf⟩ := hu
  have hgo : ∀ (ad : Addr), A = some ad → (∀ j x, news[j]? = some x → w.cell? (ad.add j) = some x) → o.wp P a w K Q := fun ad hA hnews => by
    subst hA
    refine wp_append_own w s x t ho base e i z size bytes ht hi hz hsize hby hzs hsz v n xs hs hown ad m c news hx hl hnews h1 h63 hbytes hbase ?_
    intro v' w' h2 h3 _
    exact h v' w' h2 ((Below.refl _ _).grown h3 hbase (fun g hg => (hown.lt g hg).1))
  by_cases hm : 0 < m
  · obtain ⟨b, off, hA, hlt, hcell⟩ := hf hm
    refine hgo _ hA fun j x hj => ?_
    have := hcell j x hj
    have e : (⟨b, off, none⟩ : Addr).add j = ⟨b, off + j, none⟩ := by
      unfold Addr.add
      split
      · rename_i h0; subst h0; rfl
      · rfl
    rw [e]; exact this
  · obtain rfl : m = 0 := by omega
    obtain rfl : news = [] := List.eq_nil_of_length_eq_zero (by rw [hl]; omega)
    cases A with
    | some ad => exact hgo ad rfl (by simp)
    | none =>
      have hrun := run_app_none (P := P) w base t o.type e i size ht hi v n c xs hown
      unfold Oper.wp
      simp [execOp, ho, resolve, invoke, builtin, hs, hx, hrun, Result.andThen]
      refine h v w ?_ (Below.refl _ _)
      simpa using hown
/-- the same, at a step of a region that draws its order -/
theorem step_app {P : Program} {w : World} {ops : Array Oper} {o : Oper} {a : Act} {K : Act → World → Prop} {Q : Exit → Act → World → Prop} {E : Prop} (hgd : o.guard = none) (s x : Operand) (t : TypeId)
    (ho : o.op = .call { callee := .builtin .append, args := #[s, x], argTypes := #[t, t] })
    (base : Nat) (e : TypeId) (i : TypeInfo) (z : Value) (size bytes : Nat) (ht : P.underlying t = some (.slice e)) (hi : P.info? e = some i) (hz : i.zero = some z)
    (hsize : i.size = size) (hby : i.bytes = bytes) (hzs : z.cells.size = size) (hsz : 0 < size)
    (v : Value) (n : Nat) (xs : List Value) (hs : a.eval s = v) (hown : w.ownsRow base e size v n xs)
    (u : Value) (m : Nat) (news : List Value) (hx : a.eval x = u) (hu : SlN w u size m news) (h1 : ∀ u ∈ news, u.oneCell' = true)
    (h63 : n + m ≤ maxLen) (hbytes : (n + m) * bytes ≤ 140737488355328) (hbase : base ≤ w.heap.size)
    (h : ∀ v' w', w'.ownsRow base e size v' (n + m) (xs ++ news) → Below base w w' → K (a.put o.dst v') w') :
    if Region.wanted o (yielded ops a.tmps) = true then Oper.wp P o a w K Q else E := by
  have hw : Region.wanted o (yielded ops a.tmps) = true := by simp [Region.wanted, hgd]
  rw [if_pos hw]
  exact wp_app s x t ho base e i z size bytes ht hi hz hsize hby hzs hsz v n xs hs hown u m news hx hu h1 h63 hbytes hbase h
theorem bdrN {B : Nat} {a b : World} (h : Below B a b) (n : Nat) : Below B a (b.drewN n) := ⟨h.os, h.tape, h.output, h.size, h.block⟩
theorem balloc {a b : World} (h : Below a.heap.size a b) (o : Obj) : Below a.heap.size a (b.alloc o) := h.alloc h.size o
theorem Keep.thenB {g : Nat} {a b c : World} (h : Keep g a b) (k : Below a.heap.size b c) : Keep g a c :=
  ⟨k.os.trans h.os, k.tape.trans h.tape, k.output.trans h.output, Nat.le_trans h.size k.size, fun i hi hne => (k.block i hi).trans (h.block i hi hne)⟩
theorem Keep.cell {g : Nat} {a b : World} (h : Keep g a b) {p : Addr} (hp : p.block < a.heap.size) (hne : p.block ≠ g) : b.cell? p = a.cell? p := World.cell?_of_block (h.block _ hp hne)
/-- an own row elsewhere is kept -/
theorem own_keep {g : Nat} {w w' : World} {base : Nat} {e : TypeId} {size : Nat} {v : Value} {n : Nat} {xs : List Value} (h : w.ownsRow base e size v n xs) (hg : g < base) (hk : Keep g w w') : w'.ownsRow base e size v n xs := by
  obtain ⟨h1, h2⟩ := h
  refine ⟨h1, ?_⟩
  rcases h2 with h2 | ⟨b, cap, cur, hv, hb, hh, r⟩
  · exact .inl h2
  · have hlt : b < w.heap.size := by
      rcases Nat.lt_or_ge b w.heap.size with hlt | hge
      · exact hlt
      · rw [Array.getElem?_eq_none hge] at hh; cases hh
    exact .inr ⟨b, cap, cur, hv, hb, (hk.block b hlt (by omega)).trans hh, r⟩
set_option maxRecDepth 100000 in
set_option maxHeartbeats 2000000 in
/-- behind the last token -/
theorem one_out (l : List Tok) (hl : l.length ≤ 100000) (g : Nat) (v : Value) (i : Nat) (d : Int) (w : World) (hp : Par w g v i d 0 0) (hc : Ctx g v l w) (hi : l.length ≤ i) (k : Nat) :
    Calls Tryd.prog 55 #[.pointer (some ⟨g, 0, none⟩)] w (PPost l g v i d k (.inr (6, placeE l i)) w) := by
  obtain ⟨A, c, hve, hcc⟩ := (hc.now hp.lt).shape
  subst hve
  have HW : Hid (∀ u, Below w.heap.size w u → Calls Tryd.prog 71 #[.pointer (some ⟨g, 0, none⟩), .int .i64 6] u fun e w' => e = .returned (.slice none 0 0) ∧ Keep g u w' ∧ Par w' g (.slice A l.length c) i d 6 (placeE l i)) := fun u hu => by
    have := wrong_c l hl g (.slice A l.length c) i d 6 u (hp.below hu) (hc.belowB (hu.mono (Nat.le_of_lt hp.lt)))
    rw [if_neg (by omega)] at this
    exact this
  have hd : decide ((l.length : Int) ≤ (i : Int)) = true := by simp; omega
  have hd' : decide (l.length ≤ i) = true := by simp; omega
  obtain ⟨pl, p0, p1, p2, p3, p4, pf1, pf2, pf3, pf4⟩ := hp
  clear hc
  go_enter Tryd.func55, Tryd.ntmps55
  go_wp2_with fail
  go_quiet (fail)
  go_wp2_with (go_at_call 71; refine (HW.out _ (bdrN (balloc (Below.refl _ _) _) _)).mono ?_; rintro e w1 ⟨rfl, hk1, hp1⟩)
  go_ret
  exact ⟨(Keep.of (bdrN (balloc (Below.refl _ _) _) _)).trans hk1, none, 0, 0, i, 6, placeE l i, rfl, hp1, fresh_nil _ _ _, rfl, rfl, by omega, by omega, [], Sl.nil _ _ _, by simp⟩
end Go.Proofs.YtahdfglelhdcnaaDoor
/- The program's parser: what binds most, no sign. -/
namespace Go.Proofs.YtahdfglelhdcnaaDoor
open Go Go.RowKit
set_option linter.unusedVariables false
theorem nods_at (W : World) (x : Nod) (b : Nat) (hb : b = W.heap.size) : NodO (W.alloc (.cells #[.int .i64 x.op, .int .i64 x.n, .string (str x.name), .int .i64 x.pos] 30)) (.slice (some ⟨b, 0, none⟩) 1 1) [x] := by
  subst hb
  exact ⟨sl_of_own (own_nod W W.heap.size (Nat.le_refl _) x), Unf.own (own_nod W W.heap.size (Nat.le_refl _) x)⟩
theorem size_drewN (w : World) (n : Nat) : (w.drewN n).heap.size = w.heap.size := rfl
/-- behind the token's copy: the parser's box, the token, the parser -/
structure Bx (w : World) (g : Nat) (v : Value) (i d : Int) (t : Tok) (wd : World) : Prop where
  keep : Keep g w wd
  box : wd.cell? ⟨w.heap.size, 0, none⟩ = some (.pointer (some ⟨g, 0, none⟩))
  tok : Blk4 wd (w.heap.size + 1) (.int .i64 t.kind) (.string (str t.text)) (.int .i64 t.n) (.int .i64 t.pos)
  par : Par wd g v i d 0 0
theorem bx_made {w : World} {g : Nat} {v : Value} {i d : Int} (hp : Par w g v i d 0 0) (t : Tok) (m n : Nat) :
    Bx w g v i d t ((((w.alloc (.cells #[.pointer (some ⟨g, 0, none⟩)] 55)).drewN m).alloc (.cells #[.int .i64 t.kind, .string (str t.text), .int .i64 t.n, .int .i64 t.pos] 34)).drewN n) := by
  refine ⟨(((Keep.refl g w).alloc _).drewN _ |>.alloc _).drewN _, ?_, ?_, ?_⟩
  · have h1 := cells_new w #[.pointer (some ⟨g, 0, none⟩)] 55 0 (.pointer (some ⟨g, 0, none⟩)) rfl
    have hlt : w.heap.size < (w.alloc (.cells #[.pointer (some ⟨g, 0, none⟩)] 55)).heap.size := by rw [World.size_alloc]; omega
    exact ((bdrN (balloc (bdrN (Below.refl _ _) m) _) n).cell (p := ⟨w.heap.size, 0, none⟩) hlt).trans h1
  · have h := Blk4.new ((w.alloc (.cells #[.pointer (some ⟨g, 0, none⟩)] 55)).drewN m) (.int .i64 t.kind) (.string (str t.text)) (.int .i64 t.n) (.int .i64 t.pos) 34
    rw [size_drewN, World.size_alloc] at h
    exact h.below (bdrN (Below.refl _ _) n)
  · exact hp.below (bdrN (balloc (bdrN (balloc (Below.refl _ _) _) m) _) n)
theorem Bx.below {w : World} {g : Nat} {v : Value} {i d : Int} {t : Tok} {wd w' : World} (h : Bx w g v i d t wd) (hb : Below wd.heap.size wd w') : Bx w g v i d t w' := by
  have hlt := h.tok.lt
  exact ⟨h.keep.trans (Keep.of hb), (hb.cell (p := ⟨w.heap.size, 0, none⟩) (by show w.heap.size < _; omega)).trans h.box, h.tok.below hb, h.par.below hb⟩
set_option maxRecDepth 100000 in
set_option maxHeartbeats 8000000 in
theorem one_base (l : List Tok) (hl : l.length ≤ 100000) (htx : ∀ t ∈ l, t.text.length ≤ 1000000) (g : Nat) (v : Value) (i : Nat) (d : Int) (w : World) (hp : Par w g v i d 0 0) (hc : Ctx g v l w) (hi : i < l.length) (k : Nat)
    (h33 : isE l i [33] = false) (h45 : isE l i [45] = false) (h40 : isE l i [40] = false) :
    Calls Tryd.prog 55 #[.pointer (some ⟨g, 0, none⟩)] w (PPost l g v i d k (baseR l i) w) := by
  have HTX : Hid ((tk l i).text.length ≤ 1000000) := by rw [tk_at hi]; exact htx _ (List.getElem_mem hi)
  have hct := hc.now hp.lt
  obtain ⟨bt0, offt, ct, rfl, hcc, hbt, hatt⟩ := hct.at_ (by omega)
  have hat := hatt i hi
  rw [← tk_at hi] at hat
  have hk := hat.kind
  have hx := hat.text
  have hn := hat.n
  have hps := hat.pos
  clear hat hatt hcc hct
  have HT : Hid (∀ u, Keep g w u → Toks u (.slice (some ⟨bt0, offt, none⟩) l.length ct) l) := fun u hu => (hc.keep hu hp.lt).now (Nat.lt_of_lt_of_le hp.lt hu.size)
  have HI : ∀ (c : UInt8) (b : Bool), isE l i [c] = b → Hid (∀ u, Keep g w u → Calls Tryd.prog 58 #[.slice (some ⟨bt0, offt, none⟩) l.length ct, .int .i64 i, .string ⟨#[c]⟩] u fun e w' => e = .returned (.bool b) ∧ w' = u) := fun c b hb u hu => by
    have := is_c l (by omega) i [c] _ u (HT.out u hu)
    unfold IsPost at this
    rw [hb] at this
    exact this.mono fun _ _ ⟨h1, h2⟩ => ⟨h1, h2.symm⟩
  have hd0 : decide ((l.length : Int) ≤ (i : Int)) = false := by simp; omega
  have hd1 : decide (l.length ≤ i) = false := by simp; omega
  have HPA := Lib.hid hp
  have HCX := Lib.hid hc
  have hg1 : ¬ (g = w.heap.size + 1) := by have := hp.lt; omega
  have hg2 : ¬ (w.heap.size + 1 = g) := by have := hp.lt; omega
  have hg3 : ¬ (g = w.heap.size) := by have := hp.lt; omega
  have hg4 : ¬ (w.heap.size = g) := by have := hp.lt; omega
  obtain ⟨pl, p0, p1, p2, p3, p4, pf1, pf2, pf3, pf4⟩ := hp
  have H33 := HI 33 _ h33
  have H45 := HI 45 _ h45
  have H40 := HI 40 _ h40
  have HR : Hid (baseR l i = if (tk l i).kind = 2 then .inl (.leaf ⟨1, (tk l i).n, [], (tk l i).pos⟩, i + 1) else if (tk l i).kind = 1 ∧ nameE (tk l i).text = true then .inl (.leaf ⟨2, 0, (tk l i).text, (tk l i).pos⟩, i + 1) else .inr (5, placeE l i)) := rfl
  have HWR : Hid (∀ u, Keep g w u → Par u g (.slice (some ⟨bt0, offt, none⟩) l.length ct) i d 0 0 → Calls Tryd.prog 71 #[.pointer (some ⟨g, 0, none⟩), .int .i64 5] u fun e w' => e = .returned (.slice none 0 0) ∧ Keep g u w' ∧ Par w' g (.slice (some ⟨bt0, offt, none⟩) l.length ct) i d 5 (placeE l i)) := fun u hu hpu => by
    have := wrong_c l hl g _ i d 5 u hpu (HCX.out.keep hu HPA.out.lt)
    rw [if_neg (by omega)] at this
    exact this
  clear HI h33 h40 h45 hc htx
  generalize baseR l i = R at HR
  generalize tk l i = t at HTX hk hx hn hps HR
  by_cases hk2 : t.kind = 2
  · have hkk : (t.kind == 2) = true := by rw [beq_iff_eq]; exact hk2
    have HZ : Hid (R = .inl (.leaf ⟨1, t.n, [], t.pos⟩, i + 1)) := by show _ = _; rw [HR.out, if_pos hk2]
    clear HR hk2
    go_enter Tryd.func55, Tryd.ntmps55
    go_wp2_with fail
    go_quiet (fail)
    go_wp2_with fail
    go_region
    go_wp2_with fail
    go_quiet (first | (go_at_call_of 58 (Value.string ⟨#[33]⟩); refine (H33.out _ ?_).mono ?_; (repeat (first | exact Keep.refl _ _ | refine Keep.drewN ?_ _ | refine Keep.drew ?_ | refine Keep.alloc ?_ _)); rintro e w' ⟨he, hw⟩; exact ⟨he, _, hw⟩))
    go_wp2_with fail
    generalize hwd : World.drewN (World.alloc (World.drewN (World.alloc w _) _) _) _ = wd
    have hbx : Bx w g (.slice (some ⟨bt0, offt, none⟩) l.length ct) i d t wd := by subst hwd; exact bx_made HPA.out t _ _
    clear hwd pl p0 p1 p2 p3 p4 pf1 pf2 pf3 pf4
    have HBX := Lib.hid hbx
    obtain ⟨hkp, hbox, ⟨tl, t0, t1, t2, t3, _, _, _, _⟩, ⟨pl, p0, p1, p2, p3, p4, pf1, pf2, pf3, pf4⟩⟩ := hbx
    have HKP := Lib.hid hkp
    clear hkp
    go_quiet (first | (go_at_call_of 58 (Value.string ⟨#[45]⟩); refine (H45.out _ ?_).mono ?_; (repeat (first | exact HKP.out | refine Keep.drewN ?_ _ | refine Keep.drew ?_)); rintro e w' ⟨he, hw⟩; exact ⟨he, _, hw⟩))
    go_wp2_with fail
    go_quiet (first | (go_at_call_of 58 (Value.string ⟨#[40]⟩); refine (H40.out _ ?_).mono ?_; (repeat (first | exact HKP.out | refine Keep.drewN ?_ _ | refine Keep.drew ?_)); rintro e w' ⟨he, hw⟩; exact ⟨he, _, hw⟩))
    go_wp2_with fail
    go_ret
    refine ⟨Keep.alloc (Keep.set ?_ _ _) _, _, 1, 1, (i : Int) + 1, 0, 0, rfl, Par.below (Par.set1 (i := i) ?_ _) (al _ _), fresh_one _ _ _ _ _ (by omega), ?_⟩
    · (repeat (first | exact HKP.out | refine Keep.drewN ?_ _ | refine Keep.drew ?_))
    · (repeat (first | exact HBX.out.par | refine Par.drewN ?_ _ | refine Par.drew ?_))
    · rw [HZ.out]
      exact ⟨rfl, rfl, rfl, nods_at _ ⟨1, t.n, [], t.pos⟩ _ (by simp only [World.size_setCell, size_drewN])⟩
  · have hkk : (t.kind == 2) = false := by rw [beq_eq_false_iff_ne]; exact hk2
    by_cases hk1 : t.kind = 1
    · have hkk1 : (t.kind == 1) = true := by rw [beq_iff_eq]; exact hk1
      have HN : Hid (∀ u, Keep g w u → Calls Tryd.prog 61 #[.string (str t.text)] u (NamePost t.text u)) := fun u hu => name_c t.text HTX.out u (HCX.out.keep hu HPA.out.lt).env
      unfold NamePost at HN
      cases hnm : nameE t.text
      · have HZ : Hid (R = .inr (5, placeE l i)) := by show _ = _; rw [HR.out, if_neg hk2, if_neg (by rw [hnm]; simp)]
        rw [hnm] at HN
        clear HR hnm hk2 hk1
        go_enter Tryd.func55, Tryd.ntmps55
        go_wp2_with fail
        go_quiet (fail)
        go_wp2_with fail
        go_region
        go_wp2_with fail
        go_quiet (first | (go_at_call_of 58 (Value.string ⟨#[33]⟩); refine (H33.out _ ?_).mono ?_; (repeat (first | exact Keep.refl _ _ | refine Keep.drewN ?_ _ | refine Keep.drew ?_ | refine Keep.alloc ?_ _)); rintro e w' ⟨he, hw⟩; exact ⟨he, _, hw⟩))
        go_wp2_with fail
        generalize hwd : World.drewN (World.alloc (World.drewN (World.alloc w _) _) _) _ = wd
        have hbx : Bx w g (.slice (some ⟨bt0, offt, none⟩) l.length ct) i d t wd := by subst hwd; exact bx_made HPA.out t _ _
        clear hwd pl p0 p1 p2 p3 p4 pf1 pf2 pf3 pf4
        have HBX := Lib.hid hbx
        obtain ⟨hkp, hbox, ⟨tl, t0, t1, t2, t3, _, _, _, _⟩, ⟨pl, p0, p1, p2, p3, p4, pf1, pf2, pf3, pf4⟩⟩ := hbx
        have HKP := Lib.hid hkp
        clear hkp
        go_quiet (first | (go_at_call_of 58 (Value.string ⟨#[45]⟩); refine (H45.out _ ?_).mono ?_; (repeat (first | exact HKP.out | refine Keep.drewN ?_ _ | refine Keep.drew ?_)); rintro e w' ⟨he, hw⟩; exact ⟨he, _, hw⟩))
        go_wp2_with fail
        go_quiet (first | (go_at_call_of 58 (Value.string ⟨#[40]⟩); refine (H40.out _ ?_).mono ?_; (repeat (first | exact HKP.out | refine Keep.drewN ?_ _ | refine Keep.drew ?_)); rintro e w' ⟨he, hw⟩; exact ⟨he, _, hw⟩))
        go_wp2_with (first
          | (go_at_call 61; refine (HN.out _ ?_).mono ?_; (repeat (first | exact HKP.out | refine Keep.drewN ?_ _ | refine Keep.drew ?_)); rintro e w1 ⟨rfl, hb1⟩; have hBx1 := HBX.out.below (Below.trans (bdrN (Below.refl wd.heap.size wd) _) hb1); have HBx1 := Lib.hid hBx1; clear hbox tl t0 t1 t2 t3 pl p0 p1 p2 p3 p4 pf1 pf2 pf3 pf4; obtain ⟨_, hbox, ⟨tl, t0, t1, t2, t3, _, _, _, _⟩, ⟨pl, p0, p1, p2, p3, p4, pf1, pf2, pf3, pf4⟩⟩ := hBx1)
          | (go_at_call 71; refine (HWR.out _ HBx1.out.keep HBx1.out.par).mono ?_; rintro e w2 ⟨rfl, hk2', hp2⟩))
        go_ret
        refine ⟨HBx1.out.keep.trans hk2', none, 0, 0, i, 5, placeE l i, rfl, hp2, fresh_nil _ _ _, ?_⟩
        rw [HZ.out]
        exact ⟨rfl, rfl, by omega, by omega, [], Sl.nil _ _ _, by simp⟩
      · have HZ : Hid (R = .inl (.leaf ⟨2, 0, t.text, t.pos⟩, i + 1)) := by show _ = _; rw [HR.out, if_neg hk2, if_pos ⟨hk1, hnm⟩]
        rw [hnm] at HN
        clear HR hnm hk2 hk1
        go_enter Tryd.func55, Tryd.ntmps55
        go_wp2_with fail
        go_quiet (fail)
        go_wp2_with fail
        go_region
        go_wp2_with fail
        go_quiet (first | (go_at_call_of 58 (Value.string ⟨#[33]⟩); refine (H33.out _ ?_).mono ?_; (repeat (first | exact Keep.refl _ _ | refine Keep.drewN ?_ _ | refine Keep.drew ?_ | refine Keep.alloc ?_ _)); rintro e w' ⟨he, hw⟩; exact ⟨he, _, hw⟩))
        go_wp2_with fail
        generalize hwd : World.drewN (World.alloc (World.drewN (World.alloc w _) _) _) _ = wd
        have hbx : Bx w g (.slice (some ⟨bt0, offt, none⟩) l.length ct) i d t wd := by subst hwd; exact bx_made HPA.out t _ _
        clear hwd pl p0 p1 p2 p3 p4 pf1 pf2 pf3 pf4
        have HBX := Lib.hid hbx
        obtain ⟨hkp, hbox, ⟨tl, t0, t1, t2, t3, _, _, _, _⟩, ⟨pl, p0, p1, p2, p3, p4, pf1, pf2, pf3, pf4⟩⟩ := hbx
        have HKP := Lib.hid hkp
        clear hkp
        go_quiet (first | (go_at_call_of 58 (Value.string ⟨#[45]⟩); refine (H45.out _ ?_).mono ?_; (repeat (first | exact HKP.out | refine Keep.drewN ?_ _ | refine Keep.drew ?_)); rintro e w' ⟨he, hw⟩; exact ⟨he, _, hw⟩))
        go_wp2_with fail
        go_quiet (first | (go_at_call_of 58 (Value.string ⟨#[40]⟩); refine (H40.out _ ?_).mono ?_; (repeat (first | exact HKP.out | refine Keep.drewN ?_ _ | refine Keep.drew ?_)); rintro e w' ⟨he, hw⟩; exact ⟨he, _, hw⟩))
        go_wp2_with (first
          | (go_at_call 61; refine (HN.out _ ?_).mono ?_; (repeat (first | exact HKP.out | refine Keep.drewN ?_ _ | refine Keep.drew ?_)); rintro e w1 ⟨rfl, hb1⟩; have hBx1 := HBX.out.below (Below.trans (bdrN (Below.refl wd.heap.size wd) _) hb1); have HBx1 := Lib.hid hBx1; clear hbox tl t0 t1 t2 t3 pl p0 p1 p2 p3 p4 pf1 pf2 pf3 pf4; obtain ⟨_, hbox, ⟨tl, t0, t1, t2, t3, _, _, _, _⟩, ⟨pl, p0, p1, p2, p3, p4, pf1, pf2, pf3, pf4⟩⟩ := hBx1))
        go_ret
        refine ⟨Keep.alloc (Keep.set HBx1.out.keep _ _) _, _, 1, 1, (i : Int) + 1, 0, 0, rfl, Par.below (Par.set1 HBx1.out.par _) (al _ _), fresh_one _ _ _ _ _ (Nat.le_of_lt (Nat.lt_of_succ_lt HBx1.out.tok.lt)), ?_⟩
        rw [HZ.out]
        exact ⟨rfl, rfl, rfl, nods_at _ ⟨2, 0, t.text, t.pos⟩ _ (by simp only [World.size_setCell])⟩
    · have hkk1 : (t.kind == 1) = false := by rw [beq_eq_false_iff_ne]; exact hk1
      have HZ : Hid (R = .inr (5, placeE l i)) := by show _ = _; rw [HR.out, if_neg hk2, if_neg (fun h => hk1 h.1)]
      clear HR hk2 hk1
      go_enter Tryd.func55, Tryd.ntmps55
      go_wp2_with fail
      go_quiet (fail)
      go_wp2_with fail
      go_region
      go_wp2_with fail
      go_quiet (first | (go_at_call_of 58 (Value.string ⟨#[33]⟩); refine (H33.out _ ?_).mono ?_; (repeat (first | exact Keep.refl _ _ | refine Keep.drewN ?_ _ | refine Keep.drew ?_ | refine Keep.alloc ?_ _)); rintro e w' ⟨he, hw⟩; exact ⟨he, _, hw⟩))
      go_wp2_with fail
      generalize hwd : World.drewN (World.alloc (World.drewN (World.alloc w _) _) _) _ = wd
      have hbx : Bx w g (.slice (some ⟨bt0, offt, none⟩) l.length ct) i d t wd := by subst hwd; exact bx_made HPA.out t _ _
      clear hwd pl p0 p1 p2 p3 p4 pf1 pf2 pf3 pf4
      have HBX := Lib.hid hbx
      obtain ⟨hkp, hbox, ⟨tl, t0, t1, t2, t3, _, _, _, _⟩, ⟨pl, p0, p1, p2, p3, p4, pf1, pf2, pf3, pf4⟩⟩ := hbx
      have HKP := Lib.hid hkp
      clear hkp
      go_quiet (first | (go_at_call_of 58 (Value.string ⟨#[45]⟩); refine (H45.out _ ?_).mono ?_; (repeat (first | exact HKP.out | refine Keep.drewN ?_ _ | refine Keep.drew ?_)); rintro e w' ⟨he, hw⟩; exact ⟨he, _, hw⟩))
      go_wp2_with fail
      go_quiet (first | (go_at_call_of 58 (Value.string ⟨#[40]⟩); refine (H40.out _ ?_).mono ?_; (repeat (first | exact HKP.out | refine Keep.drewN ?_ _ | refine Keep.drew ?_)); rintro e w' ⟨he, hw⟩; exact ⟨he, _, hw⟩))
      go_wp2_with (go_at_call 71; refine (HWR.out _ ?_ ?_).mono ?_; (repeat (first | exact HKP.out | refine Keep.drewN ?_ _ | refine Keep.drew ?_)); (repeat (first | exact HBX.out.par | refine Par.drewN ?_ _ | refine Par.drew ?_)); rintro e w2 ⟨rfl, hk2', hp2⟩)
      go_ret
      refine ⟨Keep.trans ?_ hk2', none, 0, 0, i, 5, placeE l i, rfl, hp2, fresh_nil _ _ _, ?_⟩
      · (repeat (first | exact HKP.out | refine Keep.drewN ?_ _ | refine Keep.drew ?_))
      · rw [HZ.out]
        exact ⟨rfl, rfl, by omega, by omega, [], Sl.nil _ _ _, by simp⟩
end Go.Proofs.YtahdfglelhdcnaaDoor

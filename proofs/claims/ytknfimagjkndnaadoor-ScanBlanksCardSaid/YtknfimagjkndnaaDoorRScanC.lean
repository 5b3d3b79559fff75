/- The reference's scanning: the walk. -/
import Derived.Test.YtknfimagjkndnaaDoorRScanA
import Derived.WalkKit
import Derived.WalkSpells
import Derived.WalkLawsBesides
import Derived.BigQuiet
import Derived.Deep.QuietTactic
import Derived.RegionTactic
import Derived.Maps.AppendAt
namespace Go.Proofs.YtknfimagjkndnaaDoor
open Go Go.RowKit
set_option linter.unusedVariables false
theorem info_tok : (Tryd.prog.info? 31).map (fun i => (i.zero, i.size, i.bytes)) = some (some (.agg #[.int .i64 0, .string ByteArray.empty, .int .i64 0, .int .i64 0]), 4, 40) := by kernel_rfl
def ScanPost (R : List Tok × Int × Int) (w : World) (e : Ending) (w' : World) : Prop :=
  ∃ v, e = .returned (.tuple #[v, .int .i64 R.2.1, .int .i64 R.2.2]) ∧ Toks w' v R.1 ∧ Below w.heap.size w w'
/-- what holds at the head of a round: p: the place; ts: the tokens that were read -/
structure ScanInv (s : ByteArray) (w : World) (p : Nat) (ts : List Tok) (v : Value) (wr : World) : Prop where
  le : p ≤ s.size
  tp : ts.length ≤ p
  own : wr.ownsRow w.heap.size 31 4 v ts.length (ts.flatMap Tok.cells)
  below : Below w.heap.size w wr
  res : comb ts (scanS p (s.data.toList.drop p)) = scanE s.data.toList
theorem tok_letter {c : UInt8} {r : List UInt8} (h : letterE c = true) (pos : Int) : tokE (c :: r) pos = if ((c :: r).takeWhile ldE).length ≤ 16 then .inl (⟨1, (c :: r).takeWhile ldE, 0, pos⟩, ((c :: r).takeWhile ldE).length) else .inr 2 := by
  simp only [tokE, h, if_true]
theorem tok_digit {c : UInt8} {r : List UInt8} (h : letterE c = false) (h2 : digitE c = true) (pos : Int) : tokE (c :: r) pos = if valD ((c :: r).takeWhile digitE) ≤ 4294967296 then .inl (⟨2, (c :: r).takeWhile digitE, valD ((c :: r).takeWhile digitE), pos⟩, ((c :: r).takeWhile digitE).length) else .inr 4 := by
  simp only [tokE, h, h2, if_true]; rfl
theorem tok_sign {c : UInt8} {r : List UInt8} (h : letterE c = false) (h2 : digitE c = false) (pos : Int) : tokE (c :: r) pos = if signE (c :: r) = 0 then .inr 3 else .inl (⟨3, (c :: r).take (signE (c :: r)), 0, pos⟩, signE (c :: r)) := by
  simp only [tokE, h, h2]; rfl
theorem ScanInv.err {s : ByteArray} {w wr : World} {p : Nat} {ts : List Tok} {v : Value} (h : ScanInv s w p ts v wr) (hp : p < s.size) {e : Int} (he : e ≠ 0) (ht : tokE (s.data.toList.drop p) p = .inr e) :
    scanE s.data.toList = ([], e, (p : Int)) := by
  rw [← h.res]
  rw [drop_at s p hp] at ht ⊢
  rw [scanS_err ht, comb_err _ _ _ he]
theorem ScanInv.fin {s : ByteArray} {w wr : World} {ts : List Tok} {v : Value} (h : ScanInv s w s.size ts v wr) : scanE s.data.toList = (ts, 0, 0) := by
  rw [← h.res, drop_end s s.size (Nat.le_refl _), scanS_nil, comb_end]
theorem ScanInv.step {s : ByteArray} {w wr w' : World} {p : Nat} {ts : List Tok} {v v' : Value} (h : ScanInv s w p ts v wr) (hp : p < s.size) {t : Tok} {n : Nat} (ht : tokE (s.data.toList.drop p) p = .inl (t, n))
    (hown : w'.ownsRow w.heap.size 31 4 v' (ts.length + 1) (ts.flatMap Tok.cells ++ t.cells)) (hb : Below w.heap.size w w') :
    ScanInv s w (p + n + pastA false (s.data.toList.drop (p + n))) (ts ++ [t]) v' w' := by
  have hl := tokE_len ht
  have hle : n ≤ s.size - p := by simpa using hl.2.1
  have hpl := pastA_le false (s.data.toList.drop (p + n))
  rw [List.length_drop] at hpl
  have hsz : s.data.toList.length = s.size := by simp
  refine ⟨by omega, by have := h.tp; simp; omega, by simpa using hown, hb, ?_⟩
  rw [← h.res]
  have e1 := drop_at s p hp
  rw [e1] at ht
  rw [e1, scanS_tok ht, comb_comb, ← e1, List.drop_drop, List.drop_drop]
theorem all_succ {p : UInt8 → Bool} {s : ByteArray} {a q : Nat} (h : ∀ j (h : j < q) (h' : j < s.size), a ≤ j → p s[j] = true) (hq : q < s.size) (hp : p (s[q]'hq) = true) :
    ∀ j (h : j < q + 1) (h' : j < s.size), a ≤ j → p s[j] = true := fun j hj h' ha => by
  by_cases h2 : j < q
  · exact h j h2 h' ha
  · obtain rfl : j = q := by omega
    exact hp
theorem tw_end {p : UInt8 → Bool} {s : ByteArray} {a q : Nat} (haq : a ≤ q) (hq : q ≤ s.size) (h : ∀ j (h : j < q) (h' : j < s.size), a ≤ j → p s[j] = true)
    (hend : ¬ q < s.size ∨ ∃ h : q < s.size, p (s[q]'h) = false) : ((s.data.toList.drop a).takeWhile p).length = q - a := by
  have hsz : s.data.toList.length = s.size := by simp
  have hg : ∀ j (hj : j < (s.data.toList.drop a).length), (s.data.toList.drop a)[j] = s[a + j]'(by rw [List.length_drop] at hj; omega) := fun j hj => by
    rw [List.getElem_drop]; rfl
  rcases hend with he | ⟨hl, he⟩
  · have : q = s.size := by omega
    subst this
    rw [tw_full _ (fun j hj => by rw [hg j hj]; rw [List.length_drop] at hj; exact h _ (by omega) (by omega) (by omega))]
    rw [List.length_drop]; omega
  · refine tw_stop _ (q - a) (by rw [List.length_drop]; omega) (fun j hj => ?_) ?_
    · rw [hg j (by rw [List.length_drop]; omega)]; exact h _ (by omega) (by omega) (by omega)
    · rw [hg (q - a) (by rw [List.length_drop]; omega)]
      have : a + (q - a) = q := by omega
      simp only [this]; exact he
theorem ScanInv.step' {s : ByteArray} {w wr w' : World} {p q : Nat} {ts : List Tok} {v v' : Value} (h : ScanInv s w p ts v wr) (hp : p < s.size) (hq : p ≤ q) {t : Tok} (ht : tokE (s.data.toList.drop p) p = .inl (t, q - p))
    (hown : w'.ownsRow w.heap.size 31 4 v' (ts.length + 1) (ts.flatMap Tok.cells ++ t.cells)) (hb : Below w.heap.size w w') :
    ScanInv s w (q + pastA false (s.data.toList.drop q)) (ts ++ [t]) v' w' := by
  have := h.step hp ht hown hb
  rw [show p + (q - p) = q by omega] at this
  exact this
theorem cells_new4 (w : World) (a b c d : Value) (t : TypeId) : ∀ j u, [a, b, c, d][j]? = some u → (w.alloc (.cells #[a, b, c, d] t)).cell? ((⟨w.heap.size, 0, none⟩ : Addr).add j) = some u := by
  intro j u hj
  match j, hj with
  | 0, hj => simp at hj; subst hj; simp [Addr.add]
  | 1, hj => simp at hj; subst hj; simp [Addr.add]
  | 2, hj => simp at hj; subst hj; simp [Addr.add]
  | 3, hj => simp at hj; subst hj; simp [Addr.add]
  | j + 4, hj => simp at hj
theorem scan_ret {l : List UInt8} {R : List Tok × Int × Int} (hR : scanE l = R) {w w' : World} {v : Value} (hv : Toks w' v R.1) (hb : Below w.heap.size w w') :
    ScanPost (scanE l) w (.returned (.tuple #[v, .int .i64 R.2.1, .int .i64 R.2.2])) w' := by
  subst hR; exact ⟨v, rfl, hv, hb⟩
theorem scan_none {l : List UInt8} {e p : Int} (hR : scanE l = ([], e, p)) {w w' : World} (hb : Below w.heap.size w w') :
    ScanPost (scanE l) w (.returned (.tuple #[.slice none 0 0, .int .i64 e, .int .i64 p])) w' := scan_ret hR (Sl.nil _ _ _) hb
theorem tok_block {wr w4 : World} {a b c d : Value} {t : TypeId} (h : Below (wr.alloc (.cells #[a, b, c, d] t)).heap.size (wr.alloc (.cells #[a, b, c, d] t)) w4) :
    wr.heap.size + 1 ≤ w4.heap.size ∧ w4.cell? ⟨wr.heap.size, 0, none⟩ = some a ∧ w4.cell? ⟨wr.heap.size, 1, none⟩ = some b ∧ w4.cell? ⟨wr.heap.size, 2, none⟩ = some c ∧ w4.cell? ⟨wr.heap.size, 3, none⟩ = some d ∧
    w4.frozen? ⟨wr.heap.size, 0, none⟩ = false ∧ w4.frozen? ⟨wr.heap.size, 1, none⟩ = false ∧ w4.frozen? ⟨wr.heap.size, 2, none⟩ = false ∧ w4.frozen? ⟨wr.heap.size, 3, none⟩ = false := by
  have hs := h.size
  have hl : wr.heap.size < (wr.alloc (.cells #[a, b, c, d] t)).heap.size := by rw [World.size_alloc]; omega
  rw [World.size_alloc] at hs
  refine ⟨hs, ?_, ?_, ?_, ?_, ?_, ?_, ?_, ?_⟩
  iterate 4 rw [h.cell (p := ⟨wr.heap.size, _, none⟩) hl, World.cell?_alloc_new]; rfl
  all_goals
    rw [h.frozen (p := ⟨wr.heap.size, _, none⟩) hl]
    simp
theorem grown_set (w : World) (p : Addr) (v : Value) : w.grownBy (w.setCell p v) (some p.block) :=
  ⟨rfl, rfl, rfl, by simp [World.setCell], fun k _ hne => Below.heap_setCell _ _ _ _ (fun e => hne (by rw [e]))⟩
theorem apd_facts {s : ByteArray} {w wr w4 : World} {p : Nat} {ts : List Tok} {v a b c d a' b' c' d' u : Value} {k : Nat} (h : ScanInv s w p ts v wr)
    (hb : Below (wr.alloc (.cells #[a, b, c, d] 31)).heap.size (wr.alloc (.cells #[a, b, c, d] 31)) w4) :
    ((w4.setCell ⟨wr.heap.size, k, none⟩ u).alloc (.cells #[a', b', c', d'] 31)).ownsRow w.heap.size 31 4 v ts.length (ts.flatMap Tok.cells) ∧
    Below w.heap.size w ((w4.setCell ⟨wr.heap.size, k, none⟩ u).alloc (.cells #[a', b', c', d'] 31)) ∧
    (∀ j x, [a', b', c', d'][j]? = some x → ((w4.setCell ⟨wr.heap.size, k, none⟩ u).alloc (.cells #[a', b', c', d'] 31)).cell? ((⟨w4.heap.size, 0, none⟩ : Addr).add j) = some x) ∧
    w.heap.size ≤ ((w4.setCell ⟨wr.heap.size, k, none⟩ u).alloc (.cells #[a', b', c', d'] 31)).heap.size := by
  have hs := hb.size
  have hw := h.below.size
  have hsz : (w4.setCell ⟨wr.heap.size, k, none⟩ u).heap.size = w4.heap.size := by simp [World.setCell]
  rw [World.size_alloc] at hs
  refine ⟨World.ownsRow.alloc (World.ownsRow.kept (own_below (h.own.alloc _) hb) (grown_set _ _ _) (.inr ?_)) _, ?_, ?_, ?_⟩
  · intro e
    have := (h.own.lt _ e).2
    exact absurd this (Nat.lt_irrefl _)
  · exact ((((h.below.alloc hw _).trans (hb.mono (by rw [World.size_alloc]; omega))).setCell (p := ⟨wr.heap.size, k, none⟩) hw _).alloc (by rw [hsz]; omega) _)
  · have := cells_new4 (w4.setCell ⟨wr.heap.size, k, none⟩ u) a' b' c' d' 31
    rw [hsz] at this
    exact this
  · rw [World.size_alloc, hsz]; omega
/-- the number, held where it is too great -/
def capD (l : List UInt8) : Nat := l.foldl (fun n c => if n ≤ 4294967296 then 10 * n + (c.toNat - 48) else n) 0
theorem capD_snoc (l : List UInt8) (c : UInt8) : capD (l ++ [c]) = if capD l ≤ 4294967296 then 10 * capD l + (c.toNat - 48) else capD l := by
  unfold capD; rw [List.foldl_append]; rfl
theorem valD_snoc (l : List UInt8) (c : UInt8) : valD (l ++ [c]) = 10 * valD l + (c.toNat - 48) := by
  unfold valD; rw [List.foldl_append]; rfl
theorem cap_gen : ∀ (l : List UInt8) (a b : Nat), (a ≤ 4294967296 → a = b) → (4294967296 < a → 4294967296 < b) →
    (l.foldl (fun n c => if n ≤ 4294967296 then 10 * n + (c.toNat - 48) else n) a ≤ 4294967296 → l.foldl (fun n c => if n ≤ 4294967296 then 10 * n + (c.toNat - 48) else n) a = l.foldl (fun n c => 10 * n + (c.toNat - 48)) b) ∧
    (4294967296 < l.foldl (fun n c => if n ≤ 4294967296 then 10 * n + (c.toNat - 48) else n) a → 4294967296 < l.foldl (fun n c => 10 * n + (c.toNat - 48)) b)
  | [], _, _, h1, h2 => ⟨h1, h2⟩
  | c :: l, a, b, h1, h2 => by
    simp only [List.foldl_cons]
    refine cap_gen l _ _ (fun h => ?_) (fun h => ?_)
    · by_cases ha : a ≤ 4294967296
      · rw [if_pos ha, h1 ha]
      · rw [if_neg ha] at h; omega
    · by_cases ha : a ≤ 4294967296
      · rw [if_pos ha, h1 ha] at h; exact h
      · have := h2 (by omega); omega
theorem capD_eq (l : List UInt8) : (capD l ≤ 4294967296 → capD l = valD l) ∧ (4294967296 < capD l → 4294967296 < valD l) :=
  cap_gen l 0 0 (fun _ => rfl) (fun h => h)
theorem cap_le : ∀ (l : List UInt8) (a : Nat), a ≤ 42949673300 → l.foldl (fun n c => if n ≤ 4294967296 then 10 * n + (c.toNat - 48) else n) a ≤ 42949673300
  | [], _, h => h
  | c :: l, a, h => by
    simp only [List.foldl_cons]
    refine cap_le l _ ?_
    have := c.toNat_lt
    split <;> omega
theorem capD_le (l : List UInt8) : capD l ≤ 42949673300 := cap_le l 0 (by decide)
theorem below_drewN {B : Nat} {a w : World} (h : Below B a w) (n : Nat) : Below B a (w.drewN n) := ⟨h.os, h.tape, h.output, h.size, h.block⟩
theorem setCell_drewN (w : World) (n : Nat) (a : Addr) (v : Value) : (w.drewN n).setCell a v = (w.setCell a v).drewN n := rfl
theorem alloc_drewN (w : World) (n : Nat) (o : Obj) : (w.drewN n).alloc o = (w.alloc o).drewN n := rfl
attribute [local simp, local go_sem] setCell_drewN alloc_drewN
theorem take_at (s : ByteArray) (p q : Nat) (hpq : p ≤ q) (hq : q < s.size) : (s.data.toList.drop p).take (q + 1 - p) = (s.data.toList.drop p).take (q - p) ++ [s[q]] := by
  have e : q + 1 - p = q - p + 1 := by omega
  rw [e, List.take_add_one, List.getElem?_drop]
  have : p + (q - p) = q := by omega
  rw [this, List.getElem?_eq_getElem (by simpa using hq)]
  rfl
theorem digit_int {c : UInt8} (h : digitE c = true) : (48 : Int) ≤ (c.toNat : Int) ∧ (c.toNat : Int) ≤ 57 := by
  rw [digitE_int] at h; simpa using h
theorem tok_one (t : Tok) : ∀ u ∈ t.cells, u.oneCell' = true := by
  intro u hu
  simp only [Tok.cells, List.mem_cons, List.not_mem_nil, or_false] at hu
  rcases hu with rfl | rfl | rfl | rfl <;> rfl
set_option maxRecDepth 100000 in
set_option maxHeartbeats 2000000 in
theorem scan_t (s : ByteArray) (hs : s.size ≤ 1000000) (h4 : s.size ≤ 4000) (w : World) :
    Calls Tryd.prog 11 #[.string s] w (ScanPost (scanE s.data.toList) w) := by
  obtain ⟨i0, hi, hz0, hz1, hz2⟩ := info_parts info_tok
  have hd4 : decide ((4000 : Int) < (s.size : Int)) = false := by simp; omega
  go_enter Tryd.func11, Tryd.ntmps11
  go_wp2_with fail
  refine (past_c s 0 hs (Nat.zero_le _) _).mono ?_
  rintro e w1 ⟨rfl, rfl⟩
  go_wp2_with fail
  go_loopw [5, 6, 7, 8] (fun v i _ _ wr => ∃ (p : Nat) (ts : List Tok), i = .int .i64 p ∧ ScanInv s w p ts v wr) (fun _ i _ _ _ => s.size - (intOf i).toNat)
  case atStart =>
    refine ⟨pastA false s.data.toList, [], rfl, by have := pastA_le false s.data.toList; simpa using this, Nat.zero_le _, ?_, (Below.refl _ _).alloc (Nat.le_refl _) _, ?_⟩
    · have := World.ownsRow_made (base := w.heap.size) (e := 31) (size := 4) w #[] 0 (Nat.le_refl _) (Nat.zero_le _) rfl
      simpa using this
    · unfold scanE; rw [if_pos (by simpa using h4)]
  case round =>
    obtain ⟨p, ts, rfl, hinv⟩ := hrel
    have HI := Lib.hid hinv
    have hple := hinv.le
    have HSZ : Hid (w.heap.size ≤ wr.heap.size) := hinv.below.size
    clear hinv
    by_cases hlt : p < s.size
    · have hb255 : ((s[p]'hlt).toNat : Int) < 256 := by have := (s[p]'hlt).toNat_lt; omega
      have HD := Lib.hid (drop_at s p hlt)
      cases hl : letterE (s[p]'hlt)
      · have HL : Hid (∀ u, Calls Tryd.prog 30 #[.int .u8 (s[p]'hlt).toNat] u fun e w' => e = .returned (.bool false) ∧ u = w') := fun u => by rw [← hl]; exact rletter_c _ u
        cases hl2 : digitE (s[p]'hlt)
        · have HT := Lib.hid (tok_sign (r := s.data.toList.drop (p + 1)) hl hl2 p)
          have HDG : Hid (∀ u, Calls Tryd.prog 31 #[.int .u8 (s[p]'hlt).toNat] u fun e w' => e = .returned (.bool false) ∧ u = w') := fun u => by rw [← hl2]; exact rdigit_c _ u
          have HSG : Hid (∀ u : World, Calls Tryd.prog 32 #[.string s, .int .i64 p] u fun e w' => e = .returned (.int .i64 (signE (s.data.toList.drop p))) ∧ Below u.heap.size u w') := fun u => sign_c s p hs hlt u
          have HSL : Hid (signE (s.data.toList.drop p) ≤ s.size - p) := by
            have := signE_le (s.data.toList.drop p)
            show _ ≤ _
            simpa using this
          clear hl hl2
          have hsl := HSL.out
          by_cases h0 : signE (s.data.toList.drop p) = 0
          · have HE : Hid (scanE s.data.toList = ([], 3, (p : Int))) := by
              refine HI.out.err hlt (by decide) ?_
              have := HT.out
              rw [← HD.out] at this
              rw [this, if_pos h0]
            generalize signE (List.drop p s.data.toList) = g at HSG h0 hsl
            subst h0
            go_wp2_with (first | (go_at_call 30; refine (HL.out _).mono ?_; rintro e w' ⟨rfl, rfl⟩) | (go_at_call 31; refine (HDG.out _).mono ?_; rintro e w' ⟨rfl, rfl⟩) | (go_at_call 32; refine (HSG.out _).mono ?_; rintro e w4 ⟨rfl, hb4⟩))
            refine bodyPost_ret (results_tmp3 rfl _ _ _) rfl ?_
            exact scan_none HE.out ((HI.out.below.alloc HSZ.out _).trans (hb4.mono (by rw [World.size_alloc]; have := HSZ.out; omega)))
          · have hg1 : 1 ≤ signE (s.data.toList.drop p) := by omega
            have HTK : Hid (tokE (s.data.toList.drop p) p = .inl (⟨3, (s.data.toList.drop p).take (signE (s.data.toList.drop p)), 0, p⟩, signE (s.data.toList.drop p))) := by
              have := HT.out
              rw [← HD.out] at this
              show _ = _
              rw [this, if_neg h0]
            clear h0
            generalize signE (List.drop p s.data.toList) = g at HSG hg1 hsl HTK
            have HX : Hid (s.extract p (p + g) = str ((s.data.toList.drop p).take g)) := by
              show _ = _
              rw [← str_of (s.extract p (p + g))]
              congr 1
              rw [← ByteArray.toList_eq, extract_toList, Nat.add_sub_cancel_left]
            generalize List.take g (List.drop p s.data.toList) = tx at HX HTK
            have hX := HX.out
            have HLEN : Hid (ts.length + 1 ≤ maxLen ∧ (ts.length + 1) * 40 ≤ 140737488355328) := by have := HI.out.tp; show _ ∧ _; unfold maxLen; constructor <;> omega
            have HLT := Lib.hid HI.out.own.lt
            have hpg : p + g ≤ s.size := by omega
            have HPA : Hid (∀ u, Calls Tryd.prog 29 #[.string s, .int .i64 ((p : Int) + (g : Int))] u fun e w' => e = .returned (.int .i64 ((p + g + pastA false (s.data.toList.drop (p + g)) : Nat) : Int)) ∧ u = w') := fun u => by
              have := past_c s (p + g) hs hpg u
              rw [Int.natCast_add p g] at this
              exact this
            go_wp2_with (first | (go_at_call 30; refine (HL.out _).mono ?_; rintro e w' ⟨rfl, rfl⟩) | (go_at_call 31; refine (HDG.out _).mono ?_; rintro e w' ⟨rfl, rfl⟩) | (go_at_call 32; refine (HSG.out _).mono ?_; rintro e w4 ⟨rfl, hb4⟩; obtain ⟨hs4, hc0, hc1, hc2, hc3, hf0, hf1, hf2, hf3⟩ := tok_block hb4; have HAP := Lib.hid (apd_facts (a' := .int .i64 3) (b' := .string (str tx)) (c' := .int .i64 0) (d' := .int .i64 p) (u := .string (str tx)) (k := 1) HI.out hb4); clear hb4) | (at_builtin; refine wpList_append_own_at _ rfl _ _ 22 rfl w.heap.size 31 i0 _ 4 40 Tryd.underlying22 hi hz0 hz1 hz2 rfl (by decide) u5 ts.length (ts.flatMap Tok.cells) rfl HAP.out.1 ⟨w4.heap.size, 0, none⟩ 1 1 (Tok.cells ⟨3, tx, 0, p⟩) rfl rfl HAP.out.2.2.1 (tok_one _) HLEN.out.1 HLEN.out.2 HAP.out.2.2.2 ?_; intro v2 w2 hown2 hgrow2 _hn _hb) | (go_at_call 29; refine (HPA.out _).mono ?_; rintro e w' ⟨rfl, rfl⟩))
            go_roundw
            case rel =>
              refine ⟨p + g + pastA false (s.data.toList.drop (p + g)), ts ++ [⟨3, tx, 0, p⟩], rfl, HI.out.step' hlt (by omega) (by rw [Nat.add_sub_cancel_left]; exact HTK.out) hown2 (HAP.out.2.1.grown hgrow2 HAP.out.2.2.2 (fun g hg => (HLT.out g hg).1))⟩
            case measure =>
              have hpl := pastA_le false (s.data.toList.drop (p + g))
              simp at hpl
              simp [intOf]; omega
        · have HT := Lib.hid (tok_digit (r := s.data.toList.drop (p + 1)) hl hl2 p)
          have HDG : Hid (∀ u, Calls Tryd.prog 31 #[.int .u8 (s[p]'hlt).toNat] u fun e w' => e = .returned (.bool true) ∧ u = w') := fun u => by rw [← hl2]; exact rdigit_c _ u
          clear hl hl2
          go_wp2_with (first | (go_at_call 30; refine (HL.out _).mono ?_; rintro e w' ⟨rfl, rfl⟩) | (go_at_call 31; refine (HDG.out _).mono ?_; rintro e w' ⟨rfl, rfl⟩))
          clear hb255 HL HDG
          go_loopw [7] (fun i w' => ∃ q n d : Nat, p ≤ q ∧ q ≤ s.size ∧ i = .int .i64 q ∧ w' = (wr.alloc (.cells #[.int .i64 2, .string ⟨#[]⟩, .int .i64 n, .int .i64 p] 31)).drewN d ∧ n = capD ((s.data.toList.drop p).take (q - p)) ∧ ∀ j (h : j < q) (h' : j < s.size), p ≤ j → digitE s[j] = true) (fun i _ => s.size - (intOf i).toNat)
          case atStart => exact ⟨p, 0, 0, Nat.le_refl _, hple, rfl, rfl, by rw [Nat.sub_self, List.take_zero]; rfl, fun j h h' h2 => absurd h (by omega)⟩
          case round =>
            obtain ⟨q, n, d, hpq, hq, rfl, rfl, hn, hall⟩ := hrel
            have HA := Lib.hid hall
            have HNN := Lib.hid hn
            have hnle : n ≤ 42949673300 := by rw [hn]; exact capD_le _
            clear hall hn
            have hend : (¬ q < s.size ∨ ∃ h : q < s.size, digitE (s[q]'h) = false) ∨ ∃ h : q < s.size, digitE (s[q]'h) = true := by
              by_cases h : q < s.size
              · cases h2 : digitE (s[q]'h)
                · exact .inl (.inr ⟨h, h2⟩)
                · exact .inr ⟨h, h2⟩
              · exact .inl (.inl h)
            rcases hend with hend | ⟨hlq, hgo⟩
            · have HN : Hid (((s.data.toList.drop p).takeWhile digitE).length = q - p) := tw_end hpq hq HA.out hend
              have HW : Hid ((s.data.toList.drop p).takeWhile digitE = (s.data.toList.drop p).take (q - p)) := by
                show _ = _
                rw [← HN.out]; exact List.prefix_iff_eq_take.1 (List.takeWhile_prefix _)
              have HDG : Hid (∀ h : q < s.size, ∀ u, Calls Tryd.prog 31 #[.int .u8 (s[q]'h).toNat] u fun e w' => e = .returned (.bool false) ∧ u = w') := fun h u => by
                rcases hend with h2 | ⟨_, h2⟩
                · exact absurd h h2
                · rw [← h2]; exact rdigit_c _ u
              by_cases hnm : n ≤ 4294967296
              · have HTK : Hid (tokE (s.data.toList.drop p) p = .inl (⟨2, (s.data.toList.drop p).take (q - p), n, p⟩, q - p)) := by
                  have h1 := HT.out
                  have h2 := HNN.out
                  rw [← HD.out, HW.out] at h1
                  show _ = _
                  have h3 := (capD_eq ((s.data.toList.drop p).take (q - p))).1 (by rw [← h2]; exact hnm)
                  rw [← h3, ← h2] at h1
                  rw [h1, List.length_take_of_le (by simp; omega), if_pos hnm]
                have HX : Hid (s.extract p q = str ((s.data.toList.drop p).take (q - p))) := by
                  show _ = _
                  rw [← str_of (s.extract p q)]
                  congr 1
                  rw [← ByteArray.toList_eq, extract_toList]
                clear HW HNN HA
                generalize List.take (q - p) (List.drop p s.data.toList) = tx at HX HTK
                have hX := HX.out
                have hnm2 : ¬ (4294967296 : Int) < (n : Int) := by omega
                have HAP : Hid ((((wr.alloc (.cells #[.int .i64 2, .string (str tx), .int .i64 n, .int .i64 p] 31)).alloc (.cells #[.int .i64 2, .string (str tx), .int .i64 n, .int .i64 p] 31)).drewN d).ownsRow w.heap.size 31 4 u5 ts.length (ts.flatMap Tok.cells) ∧
                    Below w.heap.size w (((wr.alloc (.cells #[.int .i64 2, .string (str tx), .int .i64 n, .int .i64 p] 31)).alloc (.cells #[.int .i64 2, .string (str tx), .int .i64 n, .int .i64 p] 31)).drewN d) ∧
                    (∀ j u, (Tok.cells ⟨2, tx, n, p⟩)[j]? = some u → (((wr.alloc (.cells #[.int .i64 2, .string (str tx), .int .i64 n, .int .i64 p] 31)).alloc (.cells #[.int .i64 2, .string (str tx), .int .i64 n, .int .i64 p] 31)).drewN d).cell? ((⟨wr.heap.size + 1, 0, none⟩ : Addr).add j) = some u) ∧
                    w.heap.size ≤ (((wr.alloc (.cells #[.int .i64 2, .string (str tx), .int .i64 n, .int .i64 p] 31)).alloc (.cells #[.int .i64 2, .string (str tx), .int .i64 n, .int .i64 p] 31)).drewN d).heap.size) := by
                  refine ⟨(HI.out.own.alloc _).alloc _, below_drewN ((HI.out.below.alloc HSZ.out _).alloc (by have := HSZ.out; simp; omega) _) d, ?_, by have := HSZ.out; simp; omega⟩
                  have := cells_new4 (wr.alloc (.cells #[.int .i64 2, .string (str tx), .int .i64 n, .int .i64 p] 31)) (.int .i64 2) (.string (str tx)) (.int .i64 n) (.int .i64 p) 31
                  rw [World.size_alloc] at this
                  exact this
                have HLEN : Hid (ts.length + 1 ≤ maxLen ∧ (ts.length + 1) * 40 ≤ 140737488355328) := by have := HI.out.tp; show _ ∧ _; unfold maxLen; constructor <;> omega
                have HLT := Lib.hid HI.out.own.lt
                have HQ : Hid (p < q) := by
                  have := (tokE_len HTK.out).1
                  show p < q
                  omega
                clear hnm
                rcases hend with hend | ⟨hlq, hend⟩
                · go_wp2_with (first | (at_builtin; refine wpList_append_own_at _ rfl _ _ 22 rfl w.heap.size 31 i0 _ 4 40 Tryd.underlying22 hi hz0 hz1 hz2 rfl (by decide) u5 ts.length (ts.flatMap Tok.cells) rfl HAP.out.1 ⟨wr.heap.size + 1, 0, none⟩ 1 1 (Tok.cells ⟨2, tx, n, p⟩) rfl rfl HAP.out.2.2.1 (tok_one _) HLEN.out.1 HLEN.out.2 HAP.out.2.2.2 ?_; intro v2 w2 hown2 hgrow2 _hn _hb) | (go_at_call 29; refine (past_c s q hs hq _).mono ?_; rintro e w' ⟨rfl, rfl⟩))
                  go_roundw
                  case rel =>
                    refine ⟨_, _, rfl, HI.out.step' hlt hpq HTK.out hown2 (HAP.out.2.1.grown hgrow2 HAP.out.2.2.2 (fun g hg => (HLT.out g hg).1))⟩
                  case measure =>
                    have := HQ.out
                    have hpl := pastA_le false (s.data.toList.drop q)
                    simp at hpl
                    simp [intOf]; omega
                · have hb255 : ((s[q]'hlq).toNat : Int) < 256 := by have := (s[q]'hlq).toNat_lt; omega
                  clear hend
                  go_wp2_with (first | (go_at_call 31; refine (HDG.out hlq _).mono ?_; rintro e w' ⟨rfl, rfl⟩) | (at_builtin; refine wpList_append_own_at _ rfl _ _ 22 rfl w.heap.size 31 i0 _ 4 40 Tryd.underlying22 hi hz0 hz1 hz2 rfl (by decide) u5 ts.length (ts.flatMap Tok.cells) rfl HAP.out.1 ⟨wr.heap.size + 1, 0, none⟩ 1 1 (Tok.cells ⟨2, tx, n, p⟩) rfl rfl HAP.out.2.2.1 (tok_one _) HLEN.out.1 HLEN.out.2 HAP.out.2.2.2 ?_; intro v2 w2 hown2 hgrow2 _hn _hb) | (go_at_call 29; refine (past_c s q hs hq _).mono ?_; rintro e w' ⟨rfl, rfl⟩))
                  go_roundw
                  case rel =>
                    refine ⟨_, _, rfl, HI.out.step' hlt hpq HTK.out hown2 (HAP.out.2.1.grown hgrow2 HAP.out.2.2.2 (fun g hg => (HLT.out g hg).1))⟩
                  case measure =>
                    have := HQ.out
                    have hpl := pastA_le false (s.data.toList.drop q)
                    simp at hpl
                    simp [intOf]; omega
              · have HE : Hid (scanE s.data.toList = ([], 4, (p : Int))) := by
                  refine HI.out.err hlt (by decide) ?_
                  have h1 := HT.out
                  have h2 := HNN.out
                  rw [← HD.out, HW.out] at h1
                  have h3 := (capD_eq ((s.data.toList.drop p).take (q - p))).2 (by rw [← h2]; omega)
                  rw [h1, if_neg (by omega)]
                have hnm2 : (4294967296 : Int) < (n : Int) := by omega
                clear HW HNN HA hnm
                rcases hend with hend | ⟨hlq, hend⟩
                · go_wp2_with fail
                  refine bodyPost_ret (results_tmp3 rfl _ _ _) rfl ?_
                  exact scan_none HE.out (below_drewN (HI.out.below.alloc HSZ.out _) d)
                · have hb255 : ((s[q]'hlq).toNat : Int) < 256 := by have := (s[q]'hlq).toNat_lt; omega
                  clear hend
                  go_wp2_with (go_at_call 31; refine (HDG.out hlq _).mono ?_; rintro e w' ⟨rfl, rfl⟩)
                  refine bodyPost_ret (results_tmp3 rfl _ _ _) rfl ?_
                  exact scan_none HE.out (below_drewN (HI.out.below.alloc HSZ.out _) d)
            · have HG := Lib.hid hgo
              have hb255 : ((s[q]'hlq).toNat : Int) < 256 := by have := (s[q]'hlq).toNat_lt; omega
              have hdi := (digit_int hgo).1
              have hdi2 := (digit_int hgo).2
              have HDG : Hid (∀ u, Calls Tryd.prog 31 #[.int .u8 (s[q]'hlq).toNat] u fun e w' => e = .returned (.bool true) ∧ u = w') := fun u => by rw [← hgo]; exact rdigit_c _ u
              clear hgo
              have HS := Lib.hid (take_at s p q hpq hlq)
              have HC := Lib.hid (capD_snoc ((s.data.toList.drop p).take (q - p)) (s[q]'hlq))
              by_cases hnm : n ≤ 4294967296
              · go_wp2_with (go_at_call 31; refine (HDG.out _).mono ?_; rintro e w' ⟨rfl, rfl⟩)
                go_region
                go_wp2_with fail
                go_roundw
                case rel =>
                  refine ⟨q + 1, 10 * n + ((s[q]'hlq).toNat - 48), d + 1, by omega, by omega, by go_num, ?_, ?_, all_succ HA.out hlq HG.out⟩
                  · have e : ((10 * n + ((s[q]'hlq).toNat - 48) : Nat) : Int) = 10 * (n : Int) + (((s[q]'hlq).toNat : Int) - 48) := by omega
                    rw [e]
                  · rw [HS.out, HC.out, ← HNN.out, if_pos hnm]
                case measure => simp [intOf]; omega
              · go_wp2_with (go_at_call 31; refine (HDG.out _).mono ?_; rintro e w' ⟨rfl, rfl⟩)
                go_roundw
                case rel =>
                  refine ⟨q + 1, n, d, by omega, by omega, by go_num, rfl, ?_, all_succ HA.out hlq HG.out⟩
                  rw [HS.out, HC.out, ← HNN.out, if_neg hnm]
                case measure => simp [intOf]; omega
      · have HL : Hid (∀ u, Calls Tryd.prog 30 #[.int .u8 (s[p]'hlt).toNat] u fun e w' => e = .returned (.bool true) ∧ u = w') := fun u => by rw [← hl]; exact rletter_c _ u
        have HT := Lib.hid (tok_letter (r := s.data.toList.drop (p + 1)) hl p)
        clear hl
        go_wp2_with (go_at_call 30; refine (HL.out _).mono ?_; rintro e w' ⟨rfl, rfl⟩)
        clear hb255
        go_loop [7] (fun i => ∃ q : Nat, p ≤ q ∧ q ≤ s.size ∧ i = .int .i64 q ∧ ∀ j (h : j < q) (h' : j < s.size), p ≤ j → ldE s[j] = true) (fun i => s.size - (intOf i).toNat)
        case atStart => exact ⟨p, Nat.le_refl _, hple, rfl, fun j h h' h2 => absurd h (by omega)⟩
        case round =>
          obtain ⟨q, hpq, hq, rfl, hall⟩ := hrel
          have HA := Lib.hid hall
          clear hall HL
          have hend : (¬ q < s.size ∨ ∃ h : q < s.size, ldE (s[q]'h) = false) ∨ ∃ h : q < s.size, ldE (s[q]'h) = true := by
            by_cases h : q < s.size
            · cases h2 : ldE (s[q]'h)
              · exact .inl (.inr ⟨h, h2⟩)
              · exact .inr ⟨h, h2⟩
            · exact .inl (.inl h)
          rcases hend with hend | ⟨hlq, hgo⟩
          · have HN : Hid (((s.data.toList.drop p).takeWhile ldE).length = q - p) := tw_end hpq hq HA.out hend
            have HW : Hid ((s.data.toList.drop p).takeWhile ldE = (s.data.toList.drop p).take (q - p)) := by
              show _ = _
              rw [← HN.out]; exact List.prefix_iff_eq_take.1 (List.takeWhile_prefix _)
            by_cases h16 : q - p ≤ 16
            · have HTK : Hid (tokE (s.data.toList.drop p) p = .inl (⟨1, (s.data.toList.drop p).take (q - p), 0, p⟩, q - p)) := by
                have := HT.out
                rw [← HD.out, HW.out] at this
                show _ = _
                rw [this, List.length_take_of_le (by simp; omega), if_pos h16]
              have h16' : ¬ ((16 : Int) < (q : Int) - (p : Int)) := by omega
              have HX : Hid (s.extract p q = str ((s.data.toList.drop p).take (q - p))) := by
                show _ = _
                rw [← str_of (s.extract p q)]
                congr 1
                rw [← ByteArray.toList_eq, extract_toList]
              clear h16
              generalize List.take (q - p) (List.drop p s.data.toList) = tx at HX HTK
              have hX := HX.out
              have HOWN : Hid (((wr.alloc (.cells #[.int .i64 1, .string (str tx), .int .i64 0, .int .i64 p] 31)).alloc (.cells #[.int .i64 1, .string (str tx), .int .i64 0, .int .i64 p] 31)).ownsRow w.heap.size 31 4 u5 ts.length (ts.flatMap Tok.cells)) := (HI.out.own.alloc _).alloc _
              have HBEL : Hid (Below w.heap.size w ((wr.alloc (.cells #[.int .i64 1, .string (str tx), .int .i64 0, .int .i64 p] 31)).alloc (.cells #[.int .i64 1, .string (str tx), .int .i64 0, .int .i64 p] 31))) := (HI.out.below.alloc HSZ.out _).alloc (by have := HSZ.out; simp; omega) _
              have HNEWS : Hid (∀ j u, (Tok.cells ⟨1, tx, 0, p⟩)[j]? = some u → ((wr.alloc (.cells #[.int .i64 1, .string (str tx), .int .i64 0, .int .i64 p] 31)).alloc (.cells #[.int .i64 1, .string (str tx), .int .i64 0, .int .i64 p] 31)).cell? ((⟨wr.heap.size + 1, 0, none⟩ : Addr).add j) = some u) := by
                have := cells_new4 (wr.alloc (.cells #[.int .i64 1, .string (str tx), .int .i64 0, .int .i64 p] 31)) (.int .i64 1) (.string (str tx)) (.int .i64 0) (.int .i64 p) 31
                rw [World.size_alloc] at this
                exact this
              have HLEN : Hid (ts.length + 1 ≤ maxLen ∧ (ts.length + 1) * 40 ≤ 140737488355328) := by have := HI.out.tp; show _ ∧ _; unfold maxLen; constructor <;> omega
              have HBASE : Hid (w.heap.size ≤ ((wr.alloc (.cells #[.int .i64 1, .string (str tx), .int .i64 0, .int .i64 p] 31)).alloc (.cells #[.int .i64 1, .string (str tx), .int .i64 0, .int .i64 p] 31)).heap.size) := by have := HSZ.out; show _ ≤ _; simp; omega
              have HLT := Lib.hid HI.out.own.lt
              have HQ : Hid (p < q) := by
                have := (tokE_len HTK.out).1
                show p < q
                omega
              rcases hend with hend | ⟨hlq, hend⟩
              · go_wp2_with (first | (at_builtin; refine wpList_append_own_at _ rfl _ _ 22 rfl w.heap.size 31 i0 _ 4 40 Tryd.underlying22 hi hz0 hz1 hz2 rfl (by decide) u5 ts.length (ts.flatMap Tok.cells) rfl HOWN.out ⟨wr.heap.size + 1, 0, none⟩ 1 1 (Tok.cells ⟨1, tx, 0, p⟩) rfl rfl HNEWS.out (tok_one _) HLEN.out.1 HLEN.out.2 HBASE.out ?_; intro v2 w2 hown2 hgrow2 _hn _hb) | (go_at_call 29; refine (past_c s q hs hq _).mono ?_; rintro e w' ⟨rfl, rfl⟩))
                go_roundw
                case rel =>
                  refine ⟨_, _, rfl, HI.out.step' hlt hpq HTK.out hown2 (HBEL.out.grown hgrow2 HBASE.out (fun g hg => (HLT.out g hg).1))⟩
                case measure =>
                  have := HQ.out
                  have hpl := pastA_le false (s.data.toList.drop q)
                  simp at hpl
                  simp [intOf]; omega
              · have hb255 : ((s[q]'hlq).toNat : Int) < 256 := by have := (s[q]'hlq).toNat_lt; omega
                have hl1 := (ld_false hend).1
                have hl2 := (ld_false hend).2
                have HL : Hid (∀ u, Calls Tryd.prog 30 #[.int .u8 (s[q]'hlq).toNat] u fun e w' => e = .returned (.bool false) ∧ u = w') := fun u => by rw [← hl1]; exact rletter_c _ u
                have HDG : Hid (∀ u, Calls Tryd.prog 31 #[.int .u8 (s[q]'hlq).toNat] u fun e w' => e = .returned (.bool false) ∧ u = w') := fun u => by rw [← hl2]; exact rdigit_c _ u
                clear hl1 hl2 hend
                go_wp2_with (first | (go_at_call 30; refine (HL.out _).mono ?_; rintro e w' ⟨rfl, rfl⟩) | (go_at_call 31; refine (HDG.out _).mono ?_; rintro e w' ⟨rfl, rfl⟩) | (at_builtin; refine wpList_append_own_at _ rfl _ _ 22 rfl w.heap.size 31 i0 _ 4 40 Tryd.underlying22 hi hz0 hz1 hz2 rfl (by decide) u5 ts.length (ts.flatMap Tok.cells) rfl HOWN.out ⟨wr.heap.size + 1, 0, none⟩ 1 1 (Tok.cells ⟨1, tx, 0, p⟩) rfl rfl HNEWS.out (tok_one _) HLEN.out.1 HLEN.out.2 HBASE.out ?_; intro v2 w2 hown2 hgrow2 _hn _hb) | (go_at_call 29; refine (past_c s q hs hq _).mono ?_; rintro e w' ⟨rfl, rfl⟩))
                go_roundw
                case rel =>
                  refine ⟨_, _, rfl, HI.out.step' hlt hpq HTK.out hown2 (HBEL.out.grown hgrow2 HBASE.out (fun g hg => (HLT.out g hg).1))⟩
                case measure =>
                  have := HQ.out
                  have hpl := pastA_le false (s.data.toList.drop q)
                  simp at hpl
                  simp [intOf]; omega
            · have HE : Hid (scanE s.data.toList = ([], 2, (p : Int))) := by
                refine HI.out.err hlt (by decide) ?_
                have := HT.out
                rw [← HD.out] at this
                rw [this, if_neg (by rw [HN.out]; exact h16)]
              have h16' : ((16 : Int) < (q : Int) - (p : Int)) := by omega
              clear h16
              rcases hend with hend | ⟨hlq, hend⟩
              · go_wp2_with fail
                refine bodyPost_ret (results_tmp3 rfl _ _ _) rfl ?_
                exact scan_none HE.out (HI.out.below.alloc HSZ.out _)
              · have hb255 : ((s[q]'hlq).toNat : Int) < 256 := by have := (s[q]'hlq).toNat_lt; omega
                have hl1 := (ld_false hend).1
                have hl2 := (ld_false hend).2
                have HL : Hid (∀ u, Calls Tryd.prog 30 #[.int .u8 (s[q]'hlq).toNat] u fun e w' => e = .returned (.bool false) ∧ u = w') := fun u => by rw [← hl1]; exact rletter_c _ u
                have HDG : Hid (∀ u, Calls Tryd.prog 31 #[.int .u8 (s[q]'hlq).toNat] u fun e w' => e = .returned (.bool false) ∧ u = w') := fun u => by rw [← hl2]; exact rdigit_c _ u
                clear hl1 hl2 hend
                go_wp2_with (first | (go_at_call 30; refine (HL.out _).mono ?_; rintro e w' ⟨rfl, rfl⟩) | (go_at_call 31; refine (HDG.out _).mono ?_; rintro e w' ⟨rfl, rfl⟩))
                refine bodyPost_ret (results_tmp3 rfl _ _ _) rfl ?_
                exact scan_none HE.out (HI.out.below.alloc HSZ.out _)
          · have HG := Lib.hid hgo
            have hb255 : ((s[q]'hlq).toNat : Int) < 256 := by have := (s[q]'hlq).toNat_lt; omega
            cases h1 : letterE (s[q]'hlq)
            · have h2 : digitE (s[q]'hlq) = true := by unfold ldE at hgo; rw [h1] at hgo; simpa using hgo
              have HL : Hid (∀ u, Calls Tryd.prog 30 #[.int .u8 (s[q]'hlq).toNat] u fun e w' => e = .returned (.bool false) ∧ u = w') := fun u => by rw [← h1]; exact rletter_c _ u
              have HDG : Hid (∀ u, Calls Tryd.prog 31 #[.int .u8 (s[q]'hlq).toNat] u fun e w' => e = .returned (.bool true) ∧ u = w') := fun u => by rw [← h2]; exact rdigit_c _ u
              clear h1 h2 hgo
              go_wp2_with (first | (go_at_call 30; refine (HL.out _).mono ?_; rintro e w' ⟨rfl, rfl⟩) | (go_at_call 31; refine (HDG.out _).mono ?_; rintro e w' ⟨rfl, rfl⟩))
              go_round
              case rel => exact ⟨q + 1, by omega, by omega, by go_num, all_succ HA.out hlq HG.out⟩
              case measure => simp [intOf]; omega
            · have HL : Hid (∀ u, Calls Tryd.prog 30 #[.int .u8 (s[q]'hlq).toNat] u fun e w' => e = .returned (.bool true) ∧ u = w') := fun u => by rw [← h1]; exact rletter_c _ u
              clear h1 hgo
              go_wp2_with (go_at_call 30; refine (HL.out _).mono ?_; rintro e w' ⟨rfl, rfl⟩)
              go_round
              case rel => exact ⟨q + 1, by omega, by omega, by go_num, all_succ HA.out hlq HG.out⟩
              case measure => simp [intOf]; omega
    · obtain rfl : p = s.size := by omega
      have HF := Lib.hid HI.out.fin
      go_wp2_with fail
      refine bodyPost_ret (results_tmp3 rfl _ _ _) rfl ?_
      exact scan_ret HF.out (sl_of_own HI.out.own) HI.out.below
set_option maxRecDepth 100000 in
theorem scan_c (s : ByteArray) (hs : s.size ≤ 1000000) (w : World) :
    Calls Tryd.prog 11 #[.string s] w (ScanPost (scanE s.data.toList) w) := by
  by_cases h4 : s.size ≤ 4000
  · exact scan_t s hs h4 w
  · have hd4 : decide ((4000 : Int) < (s.size : Int)) = true := by simp; omega
    have HE : Hid (scanE s.data.toList = ([], 2, 4000)) := by
      show _ = _
      unfold scanE; rw [if_neg (by simpa using h4)]
    clear h4
    go_enter Tryd.func11, Tryd.ntmps11
    go_wp2_with fail
    refine bodyPost_ret (results_tmp3 rfl _ _ _) rfl ?_
    exact scan_none HE.out (Below.refl _ _)
end Go.Proofs.YtknfimagjkndnaaDoor

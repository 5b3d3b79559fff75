/- scan.Is, scan.Place and the reference's: the walks. -/
import Derived.Test.YtknfimagjkndnaaDoorRows
import Derived.Test.YtknfimagjkndnaaDoorMem
import Derived.WalkKit
import Derived.WalkSpells
import Derived.WalkLawsBesides
import Derived.BigQuiet
import Derived.Deep.QuietTactic
namespace Go.Proofs.YtknfimagjkndnaaDoor
open Go Go.RowKit
set_option linter.unusedVariables false
/-- is token i a word, or a sign, with this text? -/
def isE (l : List Tok) (i : Int) (s : List UInt8) : Bool :=
  decide (0 ≤ i) && match l[i.toNat]? with
    | some t => t.text == s && (t.kind == 1 || t.kind == 3)
    | none => false
def IsPost (l : List Tok) (i : Int) (s : List UInt8) (w : World) (e : Ending) (w' : World) : Prop := e = .returned (.bool (isE l i s)) ∧ w = w'
theorem isE_at {l : List Tok} {i : Nat} (h : i < l.length) (s : List UInt8) : isE l i s = (l[i].text == s && (l[i].kind == 1 || l[i].kind == 3)) := by
  unfold isE
  simp [List.getElem?_eq_getElem h]
theorem isE_neg {l : List Tok} {i : Int} (h : i < 0) (s : List UInt8) : isE l i s = false := by
  unfold isE
  rw [decide_eq_false (by omega)]; rfl
theorem isE_out {l : List Tok} {i : Nat} (h : l.length ≤ i) (s : List UInt8) : isE l i s = false := by
  unfold isE
  simp [List.getElem?_eq_none h]
/-- the kind's tests, decided -/
theorem kind_cases (k : Int) : (k = 1 ∧ (k == 1 || k == 3) = true) ∨ (k = 3 ∧ (k == 1 || k == 3) = true) ∨ ((k = 2 ∨ k < 1 ∨ 3 < k) ∧ (k == 1 || k == 3) = false) := by
  by_cases h1 : k = 1
  · exact .inl ⟨h1, by simp [h1]⟩
  · by_cases h3 : k = 3
    · exact .inr (.inl ⟨h3, by simp [h3]⟩)
    · exact .inr (.inr ⟨by omega, by simp [h1, h3]⟩)
set_option maxRecDepth 100000 in
set_option maxHeartbeats 400000 in
theorem is_in (l : List Tok) (i : Nat) (hi : i < l.length) (s : List UInt8) (v : Value) (w : World) (hv : Toks w v l) :
    Calls Tryd.prog 20 #[v, .int .i64 i, .string (str s)] w (IsPost l i s w) := by
  obtain ⟨b, off, c, rfl, hc, hb, hat⟩ := hv.at_ (by omega)
  have ht := hat i hi
  have hk := ht.kind
  have hx := ht.text
  clear ht hat hb
  have HE := Lib.hid (isE_at hi s)
  generalize l[i] = t at hk hx HE
  cases h1 : ((str t.text).toList == (str s).toList)
  · have HE2 : Hid (isE l i s = false) := by
      rw [str_toList, str_toList] at h1
      show _ = _
      rw [HE.out, h1]; rfl
    go_enter Tryd.func20, Tryd.ntmps20
    go_wp2
    go_ret
    exact ⟨ret_bool HE2.out.symm, rfl⟩
  · have HE2 : Hid (isE l i s = (t.kind == 1 || t.kind == 3)) := by
      rw [str_toList, str_toList] at h1
      show _ = _
      rw [HE.out, h1]; rfl
    cases h2 : (t.kind == 1)
    · cases h3 : (t.kind == 3)
      all_goals
        have HE3 := HE2.out
        rw [h2, h3] at HE3
        have HE4 := Lib.hid HE3
        clear HE3
        go_enter Tryd.func20, Tryd.ntmps20
        go_wp2
        go_ret
        exact ⟨ret_bool HE4.out.symm, rfl⟩
    · have HE3 := HE2.out
      rw [h2] at HE3
      have HE4 := Lib.hid HE3
      clear HE3
      go_enter Tryd.func20, Tryd.ntmps20
      go_wp2
      go_ret
      exact ⟨ret_bool HE4.out.symm, rfl⟩
set_option maxRecDepth 100000 in
set_option maxHeartbeats 400000 in
theorem ris_in (l : List Tok) (i : Nat) (hi : i < l.length) (s : List UInt8) (v : Value) (w : World) (hv : Toks w v l) :
    Calls Tryd.prog 21 #[v, .int .i64 i, .string (str s)] w (IsPost l i s w) := by
  obtain ⟨b, off, c, rfl, hc, hb, hat⟩ := hv.at_ (by omega)
  have ht := hat i hi
  have hk := ht.kind
  have hx := ht.text
  clear ht hat hb
  have HE := Lib.hid (isE_at hi s)
  generalize l[i] = t at hk hx HE
  cases h1 : ((str t.text).toList == (str s).toList)
  · have HE2 : Hid (isE l i s = false) := by
      rw [str_toList, str_toList] at h1
      show _ = _
      rw [HE.out, h1]; rfl
    go_enter Tryd.func21, Tryd.ntmps21
    go_wp2
    go_ret
    exact ⟨ret_bool HE2.out.symm, rfl⟩
  · have HE2 : Hid (isE l i s = (t.kind == 1 || t.kind == 3)) := by
      rw [str_toList, str_toList] at h1
      show _ = _
      rw [HE.out, h1]; rfl
    have HK := kind_cases t.kind
    generalize t.kind = kd at hk HE2 HK
    rcases HK with ⟨rfl, h2⟩ | ⟨rfl, h2⟩ | ⟨h3, h2⟩
    · have HE4 := Lib.hid (HE2.out.trans h2)
      clear h2
      go_enter Tryd.func21, Tryd.ntmps21
      go_wp2
      go_ret
      exact ⟨ret_bool HE4.out.symm, rfl⟩
    · have HE4 := Lib.hid (HE2.out.trans h2)
      clear h2
      go_enter Tryd.func21, Tryd.ntmps21
      go_wp2
      go_ret
      exact ⟨ret_bool HE4.out.symm, rfl⟩
    · have HE4 := Lib.hid (HE2.out.trans h2)
      clear h2
      rcases h3 with rfl | h3 | h3
      · go_enter Tryd.func21, Tryd.ntmps21
        go_wp2
        go_ret
        exact ⟨ret_bool HE4.out.symm, rfl⟩
      · have h4 : (kd != 2) = true := by simp; omega
        have h5 : decide (1 ≤ kd) = false := by simp; omega
        go_enter Tryd.func21, Tryd.ntmps21
        go_wp2
        go_ret
        exact ⟨ret_bool HE4.out.symm, rfl⟩
      · have h4 : (kd != 2) = true := by simp; omega
        have h5 : decide (1 ≤ kd) = true := by simp; omega
        have h6 : decide (kd ≤ 3) = false := by simp; omega
        go_enter Tryd.func21, Tryd.ntmps21
        go_wp2
        go_ret
        exact ⟨ret_bool HE4.out.symm, rfl⟩
theorem is_c (l : List Tok) (hl : l.length ≤ 4611686018427387904) (i : Int) (s : List UInt8) (v : Value) (w : World) (hv : Toks w v l) :
    Calls Tryd.prog 20 #[v, .int .i64 i, .string (str s)] w (IsPost l i s w) := by
  by_cases h0 : i < 0
  · obtain ⟨A, c, rfl, hc⟩ := hv.shape
    have HE := Lib.hid (isE_neg (l := l) h0 s)
    have hd : decide (0 ≤ i) = false := by simp; omega
    clear hv
    go_enter Tryd.func20, Tryd.ntmps20
    go_wp2
    go_ret
    exact ⟨ret_bool HE.out.symm, rfl⟩
  · obtain ⟨n, rfl⟩ := Int.eq_ofNat_of_zero_le (show 0 ≤ i by omega)
    by_cases hi : n < l.length
    · exact is_in l n hi s v w hv
    · obtain ⟨A, c, rfl, hc⟩ := hv.shape
      have HE := Lib.hid (isE_out (i := n) (show l.length ≤ n by omega) s)
      have hd : decide (0 ≤ (n : Int)) = true := by simp
      have hd2 : decide ((n : Int) < (l.length : Int)) = false := by simp; omega
      clear hv h0
      go_enter Tryd.func20, Tryd.ntmps20
      go_wp2
      go_ret
      exact ⟨ret_bool HE.out.symm, rfl⟩
theorem ris_c (l : List Tok) (hl : l.length ≤ 4611686018427387904) (i : Int) (s : List UInt8) (v : Value) (w : World) (hv : Toks w v l) :
    Calls Tryd.prog 21 #[v, .int .i64 i, .string (str s)] w (IsPost l i s w) := by
  by_cases h0 : i < 0
  · obtain ⟨A, c, rfl, hc⟩ := hv.shape
    have HE := Lib.hid (isE_neg (l := l) h0 s)
    have hd : decide (0 ≤ i) = false := by simp; omega
    clear hv
    go_enter Tryd.func21, Tryd.ntmps21
    go_wp2
    go_ret
    exact ⟨ret_bool HE.out.symm, rfl⟩
  · obtain ⟨n, rfl⟩ := Int.eq_ofNat_of_zero_le (show 0 ≤ i by omega)
    by_cases hi : n < l.length
    · exact ris_in l n hi s v w hv
    · obtain ⟨A, c, rfl, hc⟩ := hv.shape
      have HE := Lib.hid (isE_out (i := n) (show l.length ≤ n by omega) s)
      have hd : decide (0 ≤ (n : Int)) = true := by simp
      have hd2 : decide ((n : Int) < (l.length : Int)) = false := by simp; omega
      clear hv h0
      go_enter Tryd.func21, Tryd.ntmps21
      go_wp2
      go_ret
      exact ⟨ret_bool HE.out.symm, rfl⟩
end Go.Proofs.YtknfimagjkndnaaDoor

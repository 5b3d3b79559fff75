/- The parts of a right expression are right, end within it, and are less deep: the walk. -/
import Derived.Test.YtahdfglelhdcnaaDoorLawD
import Derived.Test.YtahdfglelhdcnaaDoorWrpPlain
namespace Go.Proofs.YtahdfglelhdcnaaDoor
open Go Go.RowKit
set_option linter.unusedVariables false
theorem wrap_nat (n : Nat) (h : n < 9223372036854775808) : IntKind.i64.wrap (n : Int) = (n : Int) := by
  have e : (n : Int) % 2 ^ 64 = n := Int.emod_eq_of_lt (by omega) (by omega)
  simp only [IntKind.wrap, IntKind.bits, IntKind.signed, e]
  rw [if_neg]
  simp
  omega
theorem and_mask (i : Int) (m : Nat) (hm : m < 9223372036854775808) : ∃ n : Nat, bits .and .i64 i (m : Int) = (n : Int) ∧ n ≤ m := by
  have h : (BitVec.ofInt 64 i &&& BitVec.ofInt 64 (m : Int)).toNat ≤ m := by
    rw [BitVec.toNat_and]
    refine Nat.le_trans Nat.and_le_right ?_
    rw [BitVec.toNat_ofInt]
    omega
  refine ⟨_, ?_, h⟩
  show IntKind.i64.wrap ((BitVec.ofInt 64 i &&& BitVec.ofInt 64 (m : Int)).toNat : Int) = _
  exact wrap_nat _ (by omega)
theorem mod_nat (q n : Nat) (hn : 0 < n) : ∃ k : Nat, (q : Int).tmod (n : Int) = (k : Int) ∧ k < n :=
  ⟨q % n, by rw [Int.tmod_eq_emod_of_nonneg (by omega)]; rfl, Nat.mod_lt _ hn⟩
set_option maxRecDepth 100000 in
set_option maxHeartbeats 8000000 in
theorem parts_c (l : List Nod) (hl : l.length ≤ 9223372036854775807) (hln : ∀ x ∈ l, x.name.length ≤ 9223372036854775807) (v : Value) (i : Int) (w : World) (hv : Nods w v l) (hE : Env w) :
    Calls Tryd.prog 8 #[v, .int .i64 i] w (Yes w) := by
  have HE := Lib.hid hE
  have HC1 := Lib.hid (Cut_c l hl hln v w hv)
  obtain ⟨A0, c0, rfl, hc0⟩ := hv.shape
  have ha := cutL_len l
  have han := cutL_names l
  clear hv hE hl hln hc0
  generalize cutL l = a at HC1 ha han
  cases hr : rightE a
  · have K1 : Hid (∀ x V, Nods x V a → Env x → Calls Tryd.prog 17 #[V] x fun e w' => e = .returned (.bool false) ∧ Below x.heap.size x w') := fun x V h1 h2 => by
      have := Right_c a (by omega) han V x h1 h2
      rw [hr] at this; exact this
    clear hr ha han
    go_enter Tryd.func8, Tryd.ntmps8
    go_upto_region 2 with (go_at_call 16; refine (HC1.out).mono ?_; rintro e w1 ⟨V1, rfl, hv1, hb1⟩)
    obtain ⟨A1, c1, rfl, _⟩ := Nods.shape hv1
    have HB1 := Lib.hid hb1
    have HN1 := Lib.hid hv1
    clear hv1 hb1 HC1
    go_wp2_with (first
      | (go_at_call 17; refine (K1.out _ _ HN1.out (HE.out.below HB1.out)).mono ?_; rintro e w3 ⟨rfl, p3⟩; have HB3 := Lib.hid (bt HB1.out p3); clear p3)
      | (go_at_call 15; refine (fixed_c _ (HE.out.below HB3.out)).mono ?_; rintro e w7 ⟨rfl, p7⟩))
    go_ret
    exact ⟨rfl, bt HB3.out p7⟩
  · obtain ⟨e0, ho, hm, hF, h40, hd, _⟩ := showE_tree hr
    rw [hF] at h40
    subst hF
    obtain ⟨_, _, hdp⟩ := right_of ho hm hd h40
    have hpos := e0.flat_pos
    obtain ⟨q, hq, hq2⟩ := and_mask i 65535 (by decide)
    have hq' : bits .and .i64 i 65535 = (q : Int) := hq
    obtain ⟨k, hk, hkn⟩ := mod_nat q e0.flat.length hpos
    obtain ⟨s, hend, hle, hpart, hso, hsm, hsd, hs40, hz0, hz1⟩ := part_right ho hm hd h40 k hkn
    obtain ⟨hsr, _, hsdp⟩ := right_of hso hsm hsd hs40
    have hspos := s.flat_pos
    have K1 : Hid (∀ x V, Nods x V e0.flat → Env x → Calls Tryd.prog 17 #[V] x fun e w' => e = .returned (.bool true) ∧ Below x.heap.size x w') := fun x V h1 h2 => by
      have := Right_c e0.flat (by omega) han V x h1 h2
      rw [hr] at this; exact this
    have K2 : Hid (∀ x V, Nods x V s.flat → Env x → Calls Tryd.prog 17 #[V] x fun e w' => e = .returned (.bool true) ∧ Below x.heap.size x w') := fun x V h1 h2 => by
      have := Right_c s.flat (by omega) (flat_names hsm) V x h1 h2
      rw [hsr] at this; exact this
    have K3 : Hid (∀ x V, Nods x V e0.flat → Env x → Calls Tryd.prog 21 #[V] x fun e w' => e = .returned (.int .i64 e0.deep) ∧ Below x.heap.size x w') := fun x V h1 h2 => by
      have := Depth_c e0.flat (by omega) han V x h1 h2
      rw [hdp] at this; exact this
    have K4 : Hid (∀ x V, Nods x V s.flat → Env x → Calls Tryd.prog 21 #[V] x fun e w' => e = .returned (.int .i64 s.deep) ∧ Below x.heap.size x w') := fun x V h1 h2 => by
      have := Depth_c s.flat (by omega) (flat_names hsm) V x h1 h2
      rw [hsdp] at this; exact this
    have K5 : Hid (∀ x V, Nods x V e0.flat → Calls Tryd.prog 26 #[V, .int .i64 k] x fun e w' => e = .returned (.int .i64 ((k + s.flat.length : Nat) : Int)) ∧ x = w') := fun x V h1 => by
      have := end_c e0.flat V x h1 (by omega) k
      rw [hend] at this; exact this
    have KN : Hid (∀ x b off c, Nods x (.slice (some ⟨b, off, none⟩) e0.flat.length c) e0.flat → Nods x (.slice (some ⟨b, off + k * 4, none⟩) s.flat.length (c - k)) s.flat) := fun x b off c h => by
      have := nods_sub h k (k + s.flat.length) (by omega) hle
      rw [Nat.add_sub_cancel_left, hpart] at this
      exact this
    have hn0 : ((e0.flat.length : Int) == 0) = false := by rw [beq_eq_false_iff_ne]; omega
    have hn1 : ¬ ((e0.flat.length : Int) = 0) := by omega
    have g1 : decide ((k : Int) + (s.flat.length : Int) ≤ (k : Int)) = false := by rw [decide_eq_false_iff_not]; omega
    have g2 : decide ((e0.flat.length : Int) < (k : Int) + (s.flat.length : Int)) = false := by rw [decide_eq_false_iff_not]; omega
    have g3 : k + s.flat.length - k = s.flat.length := by omega
    have hdz : (k = 0 ∧ ((s.deep : Int) == (e0.deep : Int)) = true) ∨ (0 < k ∧ decide ((s.deep : Int) < (e0.deep : Int)) = true) := by
      by_cases h0 : k = 0
      · exact .inl ⟨h0, by rw [hz0 h0]; simp⟩
      · exact .inr ⟨by omega, by have := hz1 (by omega); simp; omega⟩
    have hn40 : (e0.flat.length : Int) ≤ 40 := by omega
    have hkw : IntKind.i64.wrap (k : Int) = (k : Int) := wrap_nat k (by omega)
    have HKS : Hid (k + s.flat.length ≤ e0.flat.length ∧ k < e0.flat.length ∧ 0 < s.flat.length) := ⟨hle, hkn, hspos⟩
    clear hr hdp hend hpart hso hsm hsd hs40 hz0 hz1 hsr hsdp ho hm hd h40 ha han hq hpos hspos hkn hle
    generalize (e0.deep : Int) = d0 at K3 hdz
    generalize (s.deep : Int) = d1 at K4 hdz
    generalize e0.flat = F at HC1 K1 K3 K5 KN hk hn0 hn1 g2 hn40 HKS
    generalize s.flat = G at K2 K4 K5 KN g1 g2 g3 HKS
    go_enter Tryd.func8, Tryd.ntmps8
    go_upto_region 2 with (go_at_call 16; refine (HC1.out).mono ?_; rintro e w1 ⟨V1, rfl, hv1, hb1⟩)
    obtain ⟨b1, o1, c1, rfl, hcc1, _, _⟩ := Nods.at_ (l := F) hv1 (by have := HKS.out; omega)
    have HB1 := Lib.hid hb1
    have HN1 := Lib.hid hv1
    clear hv1 hb1 HC1
    go_upto_region 5 with (go_at_call 17; refine (K1.out _ _ HN1.out (HE.out.below HB1.out)).mono ?_; rintro e w3 ⟨rfl, p3⟩; have HN3 := Lib.hid (SlN.below HN1.out p3); have HB3 := Lib.hid (bt HB1.out p3); clear p3)
    have u1 : k + G.length ≤ c1 := by have := HKS.out; omega
    have u2 : (k : Int) + (G.length : Int) ≤ (c1 : Int) := by omega
    have u3 : ¬ (c1 = k) := by have := HKS.out; omega
    have u4 : (0 : Int) ≤ (k : Int) := Int.natCast_nonneg _
    have u5 : (0 : Int) ≤ (k : Int) + (G.length : Int) := by omega
    have u6 : k ≤ k + G.length := by omega
    go_upto_region 9 with (go_at_call 26; refine (K5.out _ _ HN3.out).mono ?_; rintro e w4 ⟨rfl, rfl⟩)
    have HP3 := Lib.hid (KN.out _ _ _ _ HN3.out)
    rcases hdz with ⟨hz, hdd⟩ | ⟨hz, hdd⟩
    · have hk0 : ((k : Int) == 0) = true := by simp [hz]
      clear hz
      go_wp2_with (first
        | (go_at_call 17; refine (K2.out _ _ HP3.out (HE.out.below HB3.out)).mono ?_; rintro e w5 ⟨rfl, p5⟩; have HP5 := Lib.hid (SlN.below HP3.out p5); have HN5 := Lib.hid (SlN.below HN3.out p5); have HB5 := Lib.hid (bt HB3.out p5); clear p5)
        | (go_at_call_of 21 (Value.slice (some ⟨b1, o1 + k * 4, none⟩) G.length (c1 - k)); refine (K4.out _ _ HP5.out (HE.out.below HB5.out)).mono ?_; rintro e w6 ⟨rfl, p6⟩; have HN6 := Lib.hid (SlN.below HN5.out p6); have HB6 := Lib.hid (bt HB5.out p6); clear p6)
        | (go_at_call_of 21 (Value.slice (some ⟨b1, o1, none⟩) F.length c1); refine (K3.out _ _ HN6.out (HE.out.below HB6.out)).mono ?_; rintro e w7 ⟨rfl, p7⟩; have HB7 := Lib.hid (bt HB6.out p7); clear p7)
        | (go_at_call 15; refine (fixed_c _ (HE.out.below HB7.out)).mono ?_; rintro e w8 ⟨rfl, p8⟩))
      go_ret
      exact ⟨rfl, bt HB7.out p8⟩
    · have hk0 : ((k : Int) == 0) = false := by rw [beq_eq_false_iff_ne]; omega
      have hk1 : decide ((0 : Int) < (k : Int)) = true := by simp; omega
      go_wp2_with (first
        | (go_at_call 17; refine (K2.out _ _ HP3.out (HE.out.below HB3.out)).mono ?_; rintro e w5 ⟨rfl, p5⟩; have HP5 := Lib.hid (SlN.below HP3.out p5); have HN5 := Lib.hid (SlN.below HN3.out p5); have HB5 := Lib.hid (bt HB3.out p5); clear p5)
        | (go_at_call_of 21 (Value.slice (some ⟨b1, o1 + k * 4, none⟩) G.length (c1 - k)); refine (K4.out _ _ HP5.out (HE.out.below HB5.out)).mono ?_; rintro e w6 ⟨rfl, p6⟩; have HN6 := Lib.hid (SlN.below HN5.out p6); have HB6 := Lib.hid (bt HB5.out p6); clear p6)
        | (go_at_call_of 21 (Value.slice (some ⟨b1, o1, none⟩) F.length c1); refine (K3.out _ _ HN6.out (HE.out.below HB6.out)).mono ?_; rintro e w7 ⟨rfl, p7⟩; have HB7 := Lib.hid (bt HB6.out p7); clear p7)
        | (go_at_call 15; refine (fixed_c _ (HE.out.below HB7.out)).mono ?_; rintro e w8 ⟨rfl, p8⟩))
      go_ret
      exact ⟨rfl, bt HB7.out p8⟩
end Go.Proofs.YtahdfglelhdcnaaDoor

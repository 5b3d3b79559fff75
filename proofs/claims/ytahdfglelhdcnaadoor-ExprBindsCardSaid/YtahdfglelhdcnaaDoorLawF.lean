/- Of two signs between three names the one that binds more takes the name between them: the walk. -/
import Derived.Test.YtahdfglelhdcnaaDoorLawE
import Derived.Test.YtahdfglelhdcnaaDoorBndPlain
namespace Go.Proofs.YtahdfglelhdcnaaDoor
open Go Go.RowKit
set_option linter.unusedVariables false
set_option maxRecDepth 100000 in
set_option maxHeartbeats 4000000 in
theorem bfloor_c (a : Nat) (ha : a < 11) (w : World) : Calls Tryd.prog 29 #[.string (str (bs a))] w fun e w' => e = .returned (.int .i64 (bf a : Nat)) ∧ Below w.heap.size w w' := by
  match a, ha with
  | 0, _ =>
    show Calls _ _ #[.string ⟨#[43]⟩] _ (fun e w' => e = .returned (.int .i64 4) ∧ _)
    go_enter Tryd.func29, Tryd.ntmps29
    go_wp2_with fail
    go_ret
    exact ⟨rfl, Below.refl _ _⟩
  | 1, _ =>
    show Calls _ _ #[.string ⟨#[45]⟩] _ (fun e w' => e = .returned (.int .i64 4) ∧ _)
    go_enter Tryd.func29, Tryd.ntmps29
    go_wp2_with fail
    go_ret
    exact ⟨rfl, Below.refl _ _⟩
  | 2, _ =>
    show Calls _ _ #[.string ⟨#[42]⟩] _ (fun e w' => e = .returned (.int .i64 5) ∧ _)
    go_enter Tryd.func29, Tryd.ntmps29
    go_wp2_with fail
    go_ret
    exact ⟨rfl, Below.refl _ _⟩
  | 3, _ =>
    show Calls _ _ #[.string ⟨#[47]⟩] _ (fun e w' => e = .returned (.int .i64 5) ∧ _)
    go_enter Tryd.func29, Tryd.ntmps29
    go_wp2_with fail
    go_ret
    exact ⟨rfl, Below.refl _ _⟩
  | 4, _ =>
    show Calls _ _ #[.string ⟨#[37]⟩] _ (fun e w' => e = .returned (.int .i64 5) ∧ _)
    go_enter Tryd.func29, Tryd.ntmps29
    go_wp2_with fail
    go_ret
    exact ⟨rfl, Below.refl _ _⟩
  | 5, _ =>
    show Calls _ _ #[.string ⟨#[61, 61]⟩] _ (fun e w' => e = .returned (.int .i64 3) ∧ _)
    go_enter Tryd.func29, Tryd.ntmps29
    go_wp2_with fail
    go_ret
    exact ⟨rfl, Below.refl _ _⟩
  | 6, _ =>
    show Calls _ _ #[.string ⟨#[33, 61]⟩] _ (fun e w' => e = .returned (.int .i64 3) ∧ _)
    go_enter Tryd.func29, Tryd.ntmps29
    go_wp2_with fail
    go_ret
    exact ⟨rfl, Below.refl _ _⟩
  | 7, _ =>
    show Calls _ _ #[.string ⟨#[60]⟩] _ (fun e w' => e = .returned (.int .i64 3) ∧ _)
    go_enter Tryd.func29, Tryd.ntmps29
    go_wp2_with fail
    go_ret
    exact ⟨rfl, Below.refl _ _⟩
  | 8, _ =>
    show Calls _ _ #[.string ⟨#[60, 61]⟩] _ (fun e w' => e = .returned (.int .i64 3) ∧ _)
    go_enter Tryd.func29, Tryd.ntmps29
    go_wp2_with fail
    go_ret
    exact ⟨rfl, Below.refl _ _⟩
  | 9, _ =>
    show Calls _ _ #[.string ⟨#[38, 38]⟩] _ (fun e w' => e = .returned (.int .i64 2) ∧ _)
    go_enter Tryd.func29, Tryd.ntmps29
    go_wp2_with fail
    go_ret
    exact ⟨rfl, Below.refl _ _⟩
  | 10, _ =>
    show Calls _ _ #[.string ⟨#[124, 124]⟩] _ (fun e w' => e = .returned (.int .i64 1) ∧ _)
    go_enter Tryd.func29, Tryd.ntmps29
    go_wp2_with fail
    go_ret
    exact ⟨rfl, Below.refl _ _⟩
  | n + 11, h => exact absurd h (by omega)
theorem bs_cells (w : World) (t : TypeId) (a : Nat) (ha : a < 11) : (w.alloc (.cells #[.string ⟨#[43]⟩, .string ⟨#[45]⟩, .string ⟨#[42]⟩, .string ⟨#[47]⟩, .string ⟨#[37]⟩, .string ⟨#[61, 61]⟩, .string ⟨#[33, 61]⟩, .string ⟨#[60]⟩, .string ⟨#[60, 61]⟩, .string ⟨#[38, 38]⟩, .string ⟨#[124, 124]⟩] t)).cell? ⟨w.heap.size, a, none⟩ = some (.string (str (bs a))) := by
  apply cells_new
  have : ∀ a : Fin 11, (#[Value.string ⟨#[43]⟩, .string ⟨#[45]⟩, .string ⟨#[42]⟩, .string ⟨#[47]⟩, .string ⟨#[37]⟩, .string ⟨#[61, 61]⟩, .string ⟨#[33, 61]⟩, .string ⟨#[60]⟩, .string ⟨#[60, 61]⟩, .string ⟨#[38, 38]⟩, .string ⟨#[124, 124]⟩])[a.val]? = some (.string (str (bs a.val))) := by
    intro a
    match a with
    | ⟨0, _⟩ => rfl
    | ⟨1, _⟩ => rfl
    | ⟨2, _⟩ => rfl
    | ⟨3, _⟩ => rfl
    | ⟨4, _⟩ => rfl
    | ⟨5, _⟩ => rfl
    | ⟨6, _⟩ => rfl
    | ⟨7, _⟩ => rfl
    | ⟨8, _⟩ => rfl
    | ⟨9, _⟩ => rfl
    | ⟨10, _⟩ => rfl
    | ⟨n + 11, h⟩ => exact absurd h (by omega)
  exact this ⟨a, ha⟩
def B2 (s : List UInt8) : ByteArray := str s
theorem text_bytes (a b : Nat) : ⟨#[97, 32]⟩ ++ str (bs a) ++ ⟨#[32, 98, 32]⟩ ++ str (bs b) ++ ⟨#[32, 99]⟩ = str (bndText a b) := by
  unfold bndText
  rw [str_app, str_app, str_app, str_app]; rfl
theorem want_bytes (a b : Nat) : str (bndWant a b) = if bf a = 3 ∧ bf b = 3 then ⟨#[97, 32]⟩ ++ str (bs a) ++ ⟨#[32, 98]⟩
    else if bf a < bf b then ⟨#[97, 32]⟩ ++ str (bs a) ++ ⟨#[32, 40, 98, 32]⟩ ++ str (bs b) ++ ⟨#[32, 99, 41]⟩ else ⟨#[40, 97, 32]⟩ ++ str (bs a) ++ ⟨#[32, 98, 41, 32]⟩ ++ str (bs b) ++ ⟨#[32, 99]⟩ := by
  unfold bndWant
  split
  · rw [str_app, str_app]; rfl
  · split
    · rw [str_app, str_app, str_app, str_app]; rfl
    · rw [str_app, str_app, str_app, str_app]; rfl
theorem bf_le (a : Nat) : bf a ≤ 5 := by
  by_cases h : a < 11
  · have : ∀ a : Fin 11, bf a.val ≤ 5 := by decide
    exact this ⟨a, h⟩
  · unfold bf; rw [List.getD_eq_getElem?_getD, List.getElem?_eq_none (by show 11 ≤ a; omega)]; exact Nat.le_refl _
set_option maxRecDepth 100000 in
set_option maxHeartbeats 8000000 in
theorem binds_c (i j : Int) (w : World) (hE : Env w) :
    Calls Tryd.prog 9 #[.int .i64 i, .int .i64 j] w (Yes w) := by
  have HE := Lib.hid hE
  clear hE
  obtain ⟨q, hq, hq2⟩ := and_mask i 65535 (by decide)
  obtain ⟨r, hr, hr2⟩ := and_mask j 65535 (by decide)
  have hq' : bits .and .i64 i 65535 = (q : Int) := hq
  have hr' : bits .and .i64 j 65535 = (r : Int) := hr
  obtain ⟨a, ha, ha11⟩ := mod_nat q 11 (by decide)
  obtain ⟨b, hb, hb11⟩ := mod_nat r 11 (by decide)
  have ha' : (q : Int).tmod 11 = (a : Int) := ha
  have hb' : (r : Int).tmod 11 = (b : Int) := hb
  have hwa : IntKind.i64.wrap (a : Int) = (a : Int) := wrap_nat a (by omega)
  have hwb : IntKind.i64.wrap (b : Int) = (b : Int) := wrap_nat b (by omega)
  have a0 : (0 : Int) ≤ (a : Int) := Int.natCast_nonneg _
  have a1 : (a : Int) < 11 := by omega
  have b0 : (0 : Int) ≤ (b : Int) := Int.natCast_nonneg _
  have b1 : (b : Int) < 11 := by omega
  obtain ⟨e0, hR, ho, hm, hd, h40, hsh, hlen⟩ := bnd_parse a b ha11 hb11
  obtain ⟨_, hs, _⟩ := right_of ho hm hd h40
  rw [hsh] at hs
  obtain ⟨hl2, htx2⟩ := scan_use (bndText a b) (by omega)
  have hza : (str (bs a)).size ≤ 2 := by rw [str_size]; exact bs_len a
  have hzb : (str (bs b)).size ≤ 2 := by rw [str_size]; exact bs_len b
  have KT : Hid (∀ u, Calls Tryd.prog 11 #[.string (⟨#[97, 32]⟩ ++ str (bs a) ++ ⟨#[32, 98, 32]⟩ ++ str (bs b) ++ ⟨#[32, 99]⟩)] u fun e w' => ∃ A c, e = .returned (.slice A (scanE (bndText a b)).1.length c) ∧ Toks w' (.slice A (scanE (bndText a b)).1.length c) (scanE (bndText a b)).1 ∧ Below u.heap.size u w') := fun u => by
    rw [text_bytes]
    refine (tokens_c (str (bndText a b)) (by rw [str_size]; omega) u).mono ?_
    rintro e w' ⟨v2, rfl, hv2, hb2⟩
    rw [str_data] at hv2
    obtain ⟨A, c, rfl, _⟩ := Toks.shape hv2
    exact ⟨A, c, rfl, hv2, hb2⟩
  have KP : Hid (∀ u V, Toks u V (scanE (bndText a b)).1 → Env u → Calls Tryd.prog 13 #[V, .int .i64 0] u fun e w' => ∃ A c, e = .returned (.tuple #[.slice A e0.flat.length c, .int .i64 (bndTo a b : Nat), .int .i64 0, .int .i64 0]) ∧ Nods w' (.slice A e0.flat.length c) e0.flat ∧ Below u.heap.size u w') := fun u V hV hE => by
    refine (Parse_c _ hl2 htx2 V 0 u hV hE).mono ?_
    rintro e w' ⟨V2, rfl, hn, hb⟩
    rw [hR] at hn ⊢
    obtain ⟨A, c, rfl, _⟩ := Nods.shape hn
    exact ⟨A, c, rfl, hn, hb⟩
  have KS : Hid (∀ u V, Nods u V e0.flat → Env u → Calls Tryd.prog 19 #[V] u fun e w' => e = .returned (.string (str (bndWant a b))) ∧ Below u.heap.size u w') := fun u V hn hE => by
    have := Show_c e0.flat (by omega) (flat_names hm) V u hn hE
    rw [hs] at this; exact this
  rw [want_bytes] at KS
  have KA : Hid (∀ u, Calls Tryd.prog 29 #[.string (str (bs a))] u fun e w' => e = .returned (.int .i64 (bf a : Nat)) ∧ Below u.heap.size u w') := fun u => bfloor_c a ha11 u
  have KB : Hid (∀ u, Calls Tryd.prog 29 #[.string (str (bs b))] u fun e w' => e = .returned (.int .i64 (bf b : Nat)) ∧ Below u.heap.size u w') := fun u => bfloor_c b hb11 u
  have HCA : Hid (∀ (u : World) (t : TypeId), (u.alloc (.cells #[.string ⟨#[43]⟩, .string ⟨#[45]⟩, .string ⟨#[42]⟩, .string ⟨#[47]⟩, .string ⟨#[37]⟩, .string ⟨#[61, 61]⟩, .string ⟨#[33, 61]⟩, .string ⟨#[60]⟩, .string ⟨#[60, 61]⟩, .string ⟨#[38, 38]⟩, .string ⟨#[124, 124]⟩] t)).cell? ⟨u.heap.size, a, none⟩ = some (.string (str (bs a)))) := fun u t => bs_cells u t a ha11
  have HCB : Hid (∀ (u : World) (t : TypeId), (u.alloc (.cells #[.string ⟨#[43]⟩, .string ⟨#[45]⟩, .string ⟨#[42]⟩, .string ⟨#[47]⟩, .string ⟨#[37]⟩, .string ⟨#[61, 61]⟩, .string ⟨#[33, 61]⟩, .string ⟨#[60]⟩, .string ⟨#[60, 61]⟩, .string ⟨#[38, 38]⟩, .string ⟨#[124, 124]⟩] t)).cell? ⟨u.heap.size, b, none⟩ = some (.string (str (bs b)))) := fun u t => bs_cells u t b hb11
  have hto : (bf a = 3 ∧ bf b = 3 → bndTo a b = 3) ∧ (¬ (bf a = 3 ∧ bf b = 3) → bndTo a b = 5) := ⟨fun h => if_pos h, fun h => if_neg h⟩
  have hfa := bf_le a
  have hfb := bf_le b
  clear hq hr ha hb hq2 hr2 ha11 hb11 hR ho hm hd h40 hsh hlen hs hl2 htx2
  generalize (scanE (bndText a b)).1 = l2 at KT KP
  generalize e0.flat = F at KP KS
  generalize bndTo a b = t0 at KP hto
  generalize str (bs a) = sa at KT KS KA HCA hza
  generalize str (bs b) = sb at KT KS KB HCB hzb
  generalize bf a = fa at KS KA hto hfa
  generalize bf b = fb at KS KB hto hfb
  have HKS := Lib.hid KS
  clear KS
  have hcase : (fa = 3 ∧ fb = 3) ∨ (fa = 3 ∧ fb ≠ 3 ∧ fa < fb) ∨ (fa = 3 ∧ fb ≠ 3 ∧ ¬ fa < fb) ∨ (fa ≠ 3 ∧ fa < fb) ∨ (fa ≠ 3 ∧ ¬ fa < fb) := by omega
  have HTO := Lib.hid hto
  have HCASE := Lib.hid hcase
  clear hto hcase
  go_enter Tryd.func9, Tryd.ntmps9
  go_upto_region 2 with fail
  have hca := HCA.out w 9
  have hcb := HCB.out w 9
  generalize hW : World.alloc w _ = wd at hca hcb ⊢
  have hwd : Below w.heap.size w wd := by subst hW; exact al _ _
  have hlt : w.heap.size < wd.heap.size := by subst hW; rw [World.size_alloc]; omega
  have HWD := Lib.hid hwd
  clear hW hwd HCA HCB
  go_quiet (fail)
  go_upto_region 4 with (first
    | (go_at_call 11; refine (KT.out _).mono ?_; rintro e w1 ⟨A1, c1, rfl, hv1, p1⟩; have HT1 := Lib.hid hv1; have HB1 := Lib.hid (bt (bdrN HWD.out _) p1); clear p1 hv1)
    | (go_at_call 13; refine (KP.out _ _ HT1.out (HE.out.below HB1.out)).mono ?_; rintro e w2 ⟨A2, c2, rfl, hv2, p2⟩; have HN2 := Lib.hid hv2; have HB2 := Lib.hid (bt HB1.out p2); clear p2 hv2))
  rcases HCASE.out with ⟨h1, h2⟩ | ⟨h1, h2, h3⟩ | ⟨h1, h2, h3⟩ | ⟨h1, h3⟩ | ⟨h1, h3⟩
  · have HS := HKS.out
    rw [if_pos ⟨h1, h2⟩] at HS
    have HSH := Lib.hid HS
    have ht0 := HTO.out.1 ⟨h1, h2⟩
    subst h1 h2 ht0
    clear HS HKS HCASE HTO
    go_wp2_with (first
      | (go_at_call_of 29 (Value.string sa); refine (KA.out _).mono ?_; rintro e w3 ⟨rfl, p3⟩; have HN3 := Lib.hid (SlN.below HN2.out p3); have HB3 := Lib.hid (bt HB2.out p3); clear p3)
      | (go_at_call_of 29 (Value.string sb); refine (KB.out _).mono ?_; rintro e w4 ⟨rfl, p4⟩; have HN4 := Lib.hid (SlN.below HN3.out p4); have HB4 := Lib.hid (bt HB3.out p4); clear p4)
      | (go_at_call 19; refine (HSH.out _ _ HN4.out (HE.out.below HB4.out)).mono ?_; rintro e w5 ⟨rfl, p5⟩; have HB5 := Lib.hid (bt HB4.out p5); clear p5)
      | (go_at_call 15; refine (fixed_c _ (HE.out.below HB5.out)).mono ?_; rintro e w6 ⟨rfl, p6⟩))
    go_ret
    exact ⟨rfl, bt HB5.out p6⟩
  · have HS := HKS.out
    rw [if_neg (fun h => h2 h.2), if_pos h3] at HS
    have HSH := Lib.hid HS
    have ht0 := HTO.out.2 (fun h => h2 h.2)
    subst h1 ht0
    have g1 : ((fb : Int) == 3) = false := by rw [beq_eq_false_iff_ne]; omega
    have g2 : decide ((3 : Int) < (fb : Int)) = true := by simp; omega
    clear HS HKS HCASE HTO h2
    go_wp2_with (first
      | (go_at_call_of 29 (Value.string sa); (first | (refine (KA.out w2).mono ?_; rintro e w3 ⟨rfl, p3⟩; have HN3 := Lib.hid (SlN.below HN2.out p3); have HB3 := Lib.hid (bt HB2.out p3); clear p3) | (refine (KA.out _).mono ?_; rintro e w8 ⟨rfl, p8⟩; have HN8 := Lib.hid (SlN.below HN7.out p8); have HB8 := Lib.hid (bt HB7.out p8); clear p8)))
      | (go_at_call_of 29 (Value.string sb); (first | (refine (KB.out w3).mono ?_; rintro e w4 ⟨rfl, p4⟩; have HN4 := Lib.hid (SlN.below HN3.out p4); have HB4 := Lib.hid (bt HB3.out p4); clear p4) | (refine (KB.out w4).mono ?_; rintro e w7 ⟨rfl, p7⟩; have HN7 := Lib.hid (SlN.below HN4.out p7); have HB7 := Lib.hid (bt HB4.out p7); clear p7)))
      | (go_at_call 19; refine (HSH.out _ _ HN8.out (HE.out.below HB8.out)).mono ?_; rintro e w5 ⟨rfl, p5⟩; have HB5 := Lib.hid (bt HB8.out p5); clear p5)
      | (go_at_call 15; refine (fixed_c _ (HE.out.below HB5.out)).mono ?_; rintro e w6 ⟨rfl, p6⟩))
    go_ret
    exact ⟨rfl, bt HB5.out p6⟩
  · have HS := HKS.out
    rw [if_neg (fun h => h2 h.2), if_neg h3] at HS
    have HSH := Lib.hid HS
    have ht0 := HTO.out.2 (fun h => h2 h.2)
    subst h1 ht0
    have g1 : ((fb : Int) == 3) = false := by rw [beq_eq_false_iff_ne]; omega
    have g2 : decide ((3 : Int) < (fb : Int)) = false := by rw [decide_eq_false_iff_not]; omega
    clear HS HKS HCASE HTO h2
    go_wp2_with (first
      | (go_at_call_of 29 (Value.string sa); (first | (refine (KA.out w2).mono ?_; rintro e w3 ⟨rfl, p3⟩; have HN3 := Lib.hid (SlN.below HN2.out p3); have HB3 := Lib.hid (bt HB2.out p3); clear p3) | (refine (KA.out _).mono ?_; rintro e w8 ⟨rfl, p8⟩; have HN8 := Lib.hid (SlN.below HN7.out p8); have HB8 := Lib.hid (bt HB7.out p8); clear p8)))
      | (go_at_call_of 29 (Value.string sb); (first | (refine (KB.out w3).mono ?_; rintro e w4 ⟨rfl, p4⟩; have HN4 := Lib.hid (SlN.below HN3.out p4); have HB4 := Lib.hid (bt HB3.out p4); clear p4) | (refine (KB.out w4).mono ?_; rintro e w7 ⟨rfl, p7⟩; have HN7 := Lib.hid (SlN.below HN4.out p7); have HB7 := Lib.hid (bt HB4.out p7); clear p7)))
      | (go_at_call 19; refine (HSH.out _ _ HN8.out (HE.out.below HB8.out)).mono ?_; rintro e w5 ⟨rfl, p5⟩; have HB5 := Lib.hid (bt HB8.out p5); clear p5)
      | (go_at_call 15; refine (fixed_c _ (HE.out.below HB5.out)).mono ?_; rintro e w6 ⟨rfl, p6⟩))
    go_ret
    exact ⟨rfl, bt HB5.out p6⟩
  · have HS := HKS.out
    rw [if_neg (fun h => h1 h.1), if_pos h3] at HS
    have HSH := Lib.hid HS
    have ht0 := HTO.out.2 (fun h => h1 h.1)
    subst ht0
    have g1 : ((fa : Int) == 3) = false := by rw [beq_eq_false_iff_ne]; omega
    have g2 : decide ((fa : Int) < (fb : Int)) = true := by simp; omega
    clear HS HKS HCASE HTO h1
    go_wp2_with (first
      | (go_at_call_of 29 (Value.string sa); (first | (refine (KA.out w2).mono ?_; rintro e w3 ⟨rfl, p3⟩; have HN3 := Lib.hid (SlN.below HN2.out p3); have HB3 := Lib.hid (bt HB2.out p3); clear p3) | (refine (KA.out _).mono ?_; rintro e w8 ⟨rfl, p8⟩; have HN8 := Lib.hid (SlN.below HN7.out p8); have HB8 := Lib.hid (bt HB7.out p8); clear p8)))
      | (go_at_call_of 29 (Value.string sb); refine (KB.out _).mono ?_; rintro e w7 ⟨rfl, p7⟩; have HN7 := Lib.hid (SlN.below HN3.out p7); have HB7 := Lib.hid (bt HB3.out p7); clear p7)
      | (go_at_call 19; refine (HSH.out _ _ HN8.out (HE.out.below HB8.out)).mono ?_; rintro e w5 ⟨rfl, p5⟩; have HB5 := Lib.hid (bt HB8.out p5); clear p5)
      | (go_at_call 15; refine (fixed_c _ (HE.out.below HB5.out)).mono ?_; rintro e w6 ⟨rfl, p6⟩))
    go_ret
    exact ⟨rfl, bt HB5.out p6⟩
  · have HS := HKS.out
    rw [if_neg (fun h => h1 h.1), if_neg h3] at HS
    have HSH := Lib.hid HS
    have ht0 := HTO.out.2 (fun h => h1 h.1)
    subst ht0
    have g1 : ((fa : Int) == 3) = false := by rw [beq_eq_false_iff_ne]; omega
    have g2 : decide ((fa : Int) < (fb : Int)) = false := by rw [decide_eq_false_iff_not]; omega
    clear HS HKS HCASE HTO h1
    go_wp2_with (first
      | (go_at_call_of 29 (Value.string sa); (first | (refine (KA.out w2).mono ?_; rintro e w3 ⟨rfl, p3⟩; have HN3 := Lib.hid (SlN.below HN2.out p3); have HB3 := Lib.hid (bt HB2.out p3); clear p3) | (refine (KA.out _).mono ?_; rintro e w8 ⟨rfl, p8⟩; have HN8 := Lib.hid (SlN.below HN7.out p8); have HB8 := Lib.hid (bt HB7.out p8); clear p8)))
      | (go_at_call_of 29 (Value.string sb); refine (KB.out _).mono ?_; rintro e w7 ⟨rfl, p7⟩; have HN7 := Lib.hid (SlN.below HN3.out p7); have HB7 := Lib.hid (bt HB3.out p7); clear p7)
      | (go_at_call 19; refine (HSH.out _ _ HN8.out (HE.out.below HB8.out)).mono ?_; rintro e w5 ⟨rfl, p5⟩; have HB5 := Lib.hid (bt HB8.out p5); clear p5)
      | (go_at_call 15; refine (fixed_c _ (HE.out.below HB5.out)).mono ?_; rintro e w6 ⟨rfl, p6⟩))
    go_ret
    exact ⟨rfl, bt HB5.out p6⟩
end Go.Proofs.YtahdfglelhdcnaaDoor

/- IntegerRemains: the law's walk. Printed by gen_law2.py. -/
import Derived.Test.YtpjknkembghjcaaDoorKnown
import Derived.Test.YtpjknkembghjcaaDoorMake
import Derived.Test.YtpjknkembghjcaaDoorRemainsFacts
import Derived.Test.YtpjknkembghjcaaDoorCompare
import Derived.Test.YtpjknkembghjcaaDoorSign
import Derived.Test.YtpjknkembghjcaaDoorNeg
import Derived.Test.YtpjknkembghjcaaDoorSub
set_option linter.unusedVariables false
set_option linter.unusedSimpArgs false
namespace Go.Proofs.YtpjknkembghjcaaDoor
open Go.RowKit Go.Lib Go.Proofs.YtpjknkembghjcaaDoor.Dec Go.Proofs.YtpjknkembghjcaaDoor.Mag Go.Proofs.YtpjknkembghjcaaDoor.Chunk

set_option maxHeartbeats 2000000 in
set_option maxRecDepth 100000 in
theorem law_remains_11 (m0 m1 : Bool) (A0 A1 : Option Addr) (c0 c1 : Nat) (d0 d1 : List Int) (w : World)
    (r0 : RdB w A0 d0) (r1 : RdB w A1 d1) (b0 : ∀ k, k < d0.length → 0 ≤ d0.getD k 0 ∧ d0.getD k 0 < 256) (b1 : ∀ k, k < d1.length → 0 ≤ d1.getD k 0 ∧ d1.getD k 0 < 256)
    (htab : TabIs Tryd.prog w "internal/strconv.uint64pow10" .u64 pow10Tab)
    (ha : makeVal m0 d0 30 < 0) (hb : makeVal m1 d1 30 = 0) :
    Calls Tryd.prog 7 #[.agg #[.bool m0, .slice A0 d0.length c0], .agg #[.bool m1, .slice A1 d1.length c1]] w fun e w' => e = .returned (.bool true) ∧ Below w.heap.size w w' := by
  have hM0 := Lib.hid (fun w hr => make_i 30 m0 A0 c0 d0 30 rfl w hr b0 (by decide))
  have hM1 := Lib.hid (fun w hr => make_i 30 m1 A1 c1 d1 30 rfl w hr b1 (by decide))
  have la := makeVal_len m0 d0 30 (by decide)
  have lb := makeVal_len m1 d1 30 (by decide)
  generalize makeVal m0 d0 30 = a at *
  generalize makeVal m1 d1 30 = b at *
  have R0 := Lib.hid (fun w' (h : Below w.heap.size w w') => r0.below h)
  have R1 := Lib.hid (fun w' (h : Below w.heap.size w w') => r1.below h)
  obtain ⟨s1, s2⟩ := sign_bound a
  have hsg : a.sign < 0 := by rw [Int.sign_eq_neg_one_of_neg ha]; decide
  subst hb
  rw [itoa_zero] at hM1
  clear b0 b1 r0 r1
  go_enter Tryd.func7, Tryd.ntmps7
  go_wp2_with fail
  generalize hW0 : (w.alloc (.cells #[.bool m0, .slice A0 d0.length c0] 30)).alloc (.cells #[.bool m1, .slice A1 d1.length c1] 30) = W0
  have h0 : Below w.heap.size w W0 := by rw [← hW0]; exact ((Below.refl _ _).alloc (Nat.le_refl _) _).alloc (by simp) _
  have q0 : W0.cell? ⟨w.heap.size, 0, none⟩ = some (.bool m0) := by
    rw [← hW0]; exact (((Below.refl (w.alloc (.cells #[.bool m0, .slice A0 d0.length c0] 30)).heap.size _).alloc (Nat.le_refl _) _).cell (p := ⟨w.heap.size, 0, none⟩) (by simp)).trans (by simp)
  have q1 : W0.cell? ⟨w.heap.size, 1, none⟩ = some (.slice A0 d0.length c0) := by
    rw [← hW0]; exact (((Below.refl (w.alloc (.cells #[.bool m0, .slice A0 d0.length c0] 30)).heap.size _).alloc (Nat.le_refl _) _).cell (p := ⟨w.heap.size, 1, none⟩) (by simp)).trans (by simp)
  have q2 : W0.cell? ⟨w.heap.size + 1, 0, none⟩ = some (.bool m1) := by
    rw [← hW0]
    have e : w.heap.size + 1 = (w.alloc (.cells #[.bool m0, .slice A0 d0.length c0] 30)).heap.size := by simp
    rw [e]; exact World.cell?_alloc_new _ _ _ _
  have q3 : W0.cell? ⟨w.heap.size + 1, 1, none⟩ = some (.slice A1 d1.length c1) := by
    rw [← hW0]
    have e : w.heap.size + 1 = (w.alloc (.cells #[.bool m0, .slice A0 d0.length c0] 30)).heap.size := by simp
    rw [e]; exact World.cell?_alloc_new _ _ _ _
  have hs0 : w.heap.size + 2 ≤ W0.heap.size := by rw [← hW0]; simp
  clear hW0
  refine (known_n _ (tab_below htab h0)).mono ?_
  rintro e W1 ⟨rfl, h1⟩
  have bb := h0.trans (h1.mono h0.size)
  have hS := Lib.hid (show ∀ w', Below W0.heap.size W0 w' → (w'.cell? ⟨w.heap.size, 0, none⟩ = some (.bool m0) ∧ w'.cell? ⟨w.heap.size, 1, none⟩ = some (.slice A0 d0.length c0) ∧ w'.cell? ⟨w.heap.size + 1, 0, none⟩ = some (.bool m1) ∧ w'.cell? ⟨w.heap.size + 1, 1, none⟩ = some (.slice A1 d1.length c1)) from fun w' h =>
    ⟨(h.cell (p := ⟨w.heap.size, 0, none⟩) (by show w.heap.size < W0.heap.size; omega)).trans q0, (h.cell (p := ⟨w.heap.size, 1, none⟩) (by show w.heap.size < W0.heap.size; omega)).trans q1, (h.cell (p := ⟨w.heap.size + 1, 0, none⟩) (by show w.heap.size + 1 < W0.heap.size; omega)).trans q2, (h.cell (p := ⟨w.heap.size + 1, 1, none⟩) (by show w.heap.size + 1 < W0.heap.size; omega)).trans q3⟩)
  clear q0 q1 q2 q3 hs0
  have hk0 : Below W0.heap.size W0 W1.drew := h1.drew
  have bd : Below w.heap.size w W1.drew := bb.drew
  go_wp2_with fail
  go_region_held3 (fun w' => w'.cell? ⟨w.heap.size, 0, none⟩ = some (.bool m0) ∧ w'.cell? ⟨w.heap.size, 1, none⟩ = some (.slice A0 d0.length c0) ∧ w'.cell? ⟨w.heap.size + 1, 0, none⟩ = some (.bool m1) ∧ w'.cell? ⟨w.heap.size + 1, 1, none⟩ = some (.slice A1 d1.length c1)) (exact hS.out _ (by assumption)) (first
    | (go_at_call 12; (with_reducible refine (hM0.out _ (R0.out _ (by assumption))).mono ?_); rintro e w2 ⟨rfl, h2⟩; have bd := bd.trans (h2.mono bd.size); have hk0 := hk0.trans (h2.mono hk0.size))
    | (go_at_call 12; (with_reducible refine (hM1.out _ (R1.out _ (by assumption))).mono ?_); rintro e w2 ⟨rfl, h2⟩; have bd := bd.trans (h2.mono bd.size); have hk0 := hk0.trans (h2.mono hk0.size)))
  all_goals
    clear hS hM0 hM1 R0 R1 hk0
    go_wp2_with (first
      | (go_at_call 21; (with_reducible refine (sign_n a _ ).mono ?_); rintro e w3 ⟨rfl, h3⟩; subst h3))
    all_goals (go_ret)
    all_goals (exact ⟨by simp, bd⟩)

set_option maxHeartbeats 2000000 in
set_option maxRecDepth 100000 in
theorem law_remains_10 (m0 m1 : Bool) (A0 A1 : Option Addr) (c0 c1 : Nat) (d0 d1 : List Int) (w : World)
    (r0 : RdB w A0 d0) (r1 : RdB w A1 d1) (b0 : ∀ k, k < d0.length → 0 ≤ d0.getD k 0 ∧ d0.getD k 0 < 256) (b1 : ∀ k, k < d1.length → 0 ≤ d1.getD k 0 ∧ d1.getD k 0 < 256)
    (htab : TabIs Tryd.prog w "internal/strconv.uint64pow10" .u64 pow10Tab)
    (ha : makeVal m0 d0 30 < 0) (hb : makeVal m1 d1 30 ≠ 0) :
    Calls Tryd.prog 7 #[.agg #[.bool m0, .slice A0 d0.length c0], .agg #[.bool m1, .slice A1 d1.length c1]] w fun e w' => e = .returned (.bool true) ∧ Below w.heap.size w w' := by
  have hM0 := Lib.hid (fun w hr => make_i 30 m0 A0 c0 d0 30 rfl w hr b0 (by decide))
  have hM1 := Lib.hid (fun w hr => make_i 30 m1 A1 c1 d1 30 rfl w hr b1 (by decide))
  have la := makeVal_len m0 d0 30 (by decide)
  have lb := makeVal_len m1 d1 30 (by decide)
  generalize makeVal m0 d0 30 = a at *
  generalize makeVal m1 d1 30 = b at *
  have R0 := Lib.hid (fun w' (h : Below w.heap.size w w') => r0.below h)
  have R1 := Lib.hid (fun w' (h : Below w.heap.size w w') => r1.below h)
  obtain ⟨s1, s2⟩ := sign_bound a
  have hsg : a.sign < 0 := by rw [Int.sign_eq_neg_one_of_neg ha]; decide
  have hbz : (itoa b == [48]) = false := by rw [beq_eq_false_iff_ne]; intro e; exact hb (itoa_eq_zero.1 e)
  have hDM := Lib.hid (fun w htab => divmod_n a b w hb (by omega) (by omega) (divAt_all (lim_abs (K := 900000) la (by decide)) (by omega)) htab)
  obtain ⟨lq, lm⟩ := div_lens (by decide) (by decide) hb la lb
  have lqb := mul_len (by decide) lq lb
  have lab := len_of_natAbs (y := (b.natAbs : Int)) (by decide) lb (by simp)
  have HDM := Lib.hid (Int.ediv_mul_add_emod a b)
  obtain ⟨t1, t2⟩ := sign_bound (a % b)
  have hm0 := sign_nonneg (Int.emod_nonneg a hb)
  have hm1 : cmpI (a % b) (b.natAbs : Int) < 0 := by rw [cmpI_lt (Int.emod_lt a hb)]; decide
  clear b0 b1 r0 r1
  go_enter Tryd.func7, Tryd.ntmps7
  go_wp2_with fail
  generalize hW0 : (w.alloc (.cells #[.bool m0, .slice A0 d0.length c0] 30)).alloc (.cells #[.bool m1, .slice A1 d1.length c1] 30) = W0
  have h0 : Below w.heap.size w W0 := by rw [← hW0]; exact ((Below.refl _ _).alloc (Nat.le_refl _) _).alloc (by simp) _
  have q0 : W0.cell? ⟨w.heap.size, 0, none⟩ = some (.bool m0) := by
    rw [← hW0]; exact (((Below.refl (w.alloc (.cells #[.bool m0, .slice A0 d0.length c0] 30)).heap.size _).alloc (Nat.le_refl _) _).cell (p := ⟨w.heap.size, 0, none⟩) (by simp)).trans (by simp)
  have q1 : W0.cell? ⟨w.heap.size, 1, none⟩ = some (.slice A0 d0.length c0) := by
    rw [← hW0]; exact (((Below.refl (w.alloc (.cells #[.bool m0, .slice A0 d0.length c0] 30)).heap.size _).alloc (Nat.le_refl _) _).cell (p := ⟨w.heap.size, 1, none⟩) (by simp)).trans (by simp)
  have q2 : W0.cell? ⟨w.heap.size + 1, 0, none⟩ = some (.bool m1) := by
    rw [← hW0]
    have e : w.heap.size + 1 = (w.alloc (.cells #[.bool m0, .slice A0 d0.length c0] 30)).heap.size := by simp
    rw [e]; exact World.cell?_alloc_new _ _ _ _
  have q3 : W0.cell? ⟨w.heap.size + 1, 1, none⟩ = some (.slice A1 d1.length c1) := by
    rw [← hW0]
    have e : w.heap.size + 1 = (w.alloc (.cells #[.bool m0, .slice A0 d0.length c0] 30)).heap.size := by simp
    rw [e]; exact World.cell?_alloc_new _ _ _ _
  have hs0 : w.heap.size + 2 ≤ W0.heap.size := by rw [← hW0]; simp
  clear hW0
  refine (known_n _ (tab_below htab h0)).mono ?_
  rintro e W1 ⟨rfl, h1⟩
  have bb := h0.trans (h1.mono h0.size)
  have hS := Lib.hid (show ∀ w', Below W0.heap.size W0 w' → (w'.cell? ⟨w.heap.size, 0, none⟩ = some (.bool m0) ∧ w'.cell? ⟨w.heap.size, 1, none⟩ = some (.slice A0 d0.length c0) ∧ w'.cell? ⟨w.heap.size + 1, 0, none⟩ = some (.bool m1) ∧ w'.cell? ⟨w.heap.size + 1, 1, none⟩ = some (.slice A1 d1.length c1)) from fun w' h =>
    ⟨(h.cell (p := ⟨w.heap.size, 0, none⟩) (by show w.heap.size < W0.heap.size; omega)).trans q0, (h.cell (p := ⟨w.heap.size, 1, none⟩) (by show w.heap.size < W0.heap.size; omega)).trans q1, (h.cell (p := ⟨w.heap.size + 1, 0, none⟩) (by show w.heap.size + 1 < W0.heap.size; omega)).trans q2, (h.cell (p := ⟨w.heap.size + 1, 1, none⟩) (by show w.heap.size + 1 < W0.heap.size; omega)).trans q3⟩)
  clear q0 q1 q2 q3 hs0
  have hk0 : Below W0.heap.size W0 W1.drew := h1.drew
  have bd : Below w.heap.size w W1.drew := bb.drew
  go_wp2_with fail
  go_region_held3 (fun w' => w'.cell? ⟨w.heap.size, 0, none⟩ = some (.bool m0) ∧ w'.cell? ⟨w.heap.size, 1, none⟩ = some (.slice A0 d0.length c0) ∧ w'.cell? ⟨w.heap.size + 1, 0, none⟩ = some (.bool m1) ∧ w'.cell? ⟨w.heap.size + 1, 1, none⟩ = some (.slice A1 d1.length c1)) (exact hS.out _ (by assumption)) (first
    | (go_at_call 12; (with_reducible refine (hM0.out _ (R0.out _ (by assumption))).mono ?_); rintro e w2 ⟨rfl, h2⟩; have bd := bd.trans (h2.mono bd.size); have hk0 := hk0.trans (h2.mono hk0.size))
    | (go_at_call 12; (with_reducible refine (hM1.out _ (R1.out _ (by assumption))).mono ?_); rintro e w2 ⟨rfl, h2⟩; have bd := bd.trans (h2.mono bd.size); have hk0 := hk0.trans (h2.mono hk0.size)))
  all_goals
    clear hS hM0 hM1 R0 R1 hk0
    go_wp2_with (first
      | (go_at_call 21; (with_reducible refine (sign_n a _ ).mono ?_); rintro e w3 ⟨rfl, h3⟩; subst h3)
      | (go_at_call 25; (with_reducible refine (hDM.out _ (tab_below htab bd)).mono ?_); rintro e w3 ⟨rfl, h3⟩; have bd := bd.trans (h3.mono bd.size))
      | (go_at_call 13; (with_reducible refine (mul_n (a / b) b _ (by omega) (by omega) (tab_below htab bd)).mono ?_); rintro e w3 ⟨rfl, h3⟩; have bd := bd.trans (h3.mono bd.size))
      | (go_at_call 23; (with_reducible refine (add_n (a / b * b) (a % b) _ (by omega) (by omega) (tab_below htab bd)).mono ?_); rintro e w3 ⟨rfl, h3⟩; rw [HDM.out]; have bd := bd.trans (h3.mono bd.size))
      | (go_at_call 21; (with_reducible refine (sign_n (a % b) _ ).mono ?_); rintro e w3 ⟨rfl, h3⟩; subst h3)
      | (go_at_call 26; (with_reducible refine (abs_n b _ ).mono ?_); rintro e w3 ⟨rfl, h3⟩; subst h3)
      | (go_at_call 24; (with_reducible refine (compare_n (a % b) (b.natAbs : Int) _ (by omega) (by omega)).mono ?_); rintro e w3 ⟨rfl, h3⟩; subst h3))
    all_goals (go_ret)
    all_goals (exact ⟨by simp, bd⟩)

set_option maxHeartbeats 2000000 in
set_option maxRecDepth 100000 in
theorem law_remains_01 (m0 m1 : Bool) (A0 A1 : Option Addr) (c0 c1 : Nat) (d0 d1 : List Int) (w : World)
    (r0 : RdB w A0 d0) (r1 : RdB w A1 d1) (b0 : ∀ k, k < d0.length → 0 ≤ d0.getD k 0 ∧ d0.getD k 0 < 256) (b1 : ∀ k, k < d1.length → 0 ≤ d1.getD k 0 ∧ d1.getD k 0 < 256)
    (htab : TabIs Tryd.prog w "internal/strconv.uint64pow10" .u64 pow10Tab)
    (ha : 0 ≤ makeVal m0 d0 30) (hb : makeVal m1 d1 30 = 0) :
    Calls Tryd.prog 7 #[.agg #[.bool m0, .slice A0 d0.length c0], .agg #[.bool m1, .slice A1 d1.length c1]] w fun e w' => e = .returned (.bool true) ∧ Below w.heap.size w w' := by
  have hM0 := Lib.hid (fun w hr => make_i 30 m0 A0 c0 d0 30 rfl w hr b0 (by decide))
  have hM1 := Lib.hid (fun w hr => make_i 30 m1 A1 c1 d1 30 rfl w hr b1 (by decide))
  have la := makeVal_len m0 d0 30 (by decide)
  have lb := makeVal_len m1 d1 30 (by decide)
  generalize makeVal m0 d0 30 = a at *
  generalize makeVal m1 d1 30 = b at *
  have R0 := Lib.hid (fun w' (h : Below w.heap.size w w') => r0.below h)
  have R1 := Lib.hid (fun w' (h : Below w.heap.size w w') => r1.below h)
  obtain ⟨s1, s2⟩ := sign_bound a
  have hsg := sign_nonneg ha
  obtain ⟨r, hr0, hr1, hr2, lr⟩ := root_facts (by decide) ha la
  have hRt := Lib.hid (fun w htab => root_n a r w ha (by omega) (fun z hz => divAt_all (lim_nonneg (K := 900000) ha la (by decide)) hz) hr0 hr1 hr2 htab)
  have hA1 := Lib.hid (fun w htab => add_n r 1 w (by omega) (by rw [itoa_one]; decide) htab)
  rw [itoa_one] at hA1
  have lr1 := add_len lr (show (itoa 1).length ≤ 32 by rw [itoa_one]; decide)
  have lrr := mul_len (by decide) lr lr
  have lrr1 := mul_len (by decide) lr1 lr1
  have hc1 := cmp_le hr1
  have hc2 : ¬ cmpI ((r + 1) * (r + 1)) a ≤ 0 := by rw [cmpI_gt hr2]; decide
  subst hb
  rw [itoa_zero] at hM1
  clear b0 b1 r0 r1
  go_enter Tryd.func7, Tryd.ntmps7
  go_wp2_with fail
  generalize hW0 : (w.alloc (.cells #[.bool m0, .slice A0 d0.length c0] 30)).alloc (.cells #[.bool m1, .slice A1 d1.length c1] 30) = W0
  have h0 : Below w.heap.size w W0 := by rw [← hW0]; exact ((Below.refl _ _).alloc (Nat.le_refl _) _).alloc (by simp) _
  have q0 : W0.cell? ⟨w.heap.size, 0, none⟩ = some (.bool m0) := by
    rw [← hW0]; exact (((Below.refl (w.alloc (.cells #[.bool m0, .slice A0 d0.length c0] 30)).heap.size _).alloc (Nat.le_refl _) _).cell (p := ⟨w.heap.size, 0, none⟩) (by simp)).trans (by simp)
  have q1 : W0.cell? ⟨w.heap.size, 1, none⟩ = some (.slice A0 d0.length c0) := by
    rw [← hW0]; exact (((Below.refl (w.alloc (.cells #[.bool m0, .slice A0 d0.length c0] 30)).heap.size _).alloc (Nat.le_refl _) _).cell (p := ⟨w.heap.size, 1, none⟩) (by simp)).trans (by simp)
  have q2 : W0.cell? ⟨w.heap.size + 1, 0, none⟩ = some (.bool m1) := by
    rw [← hW0]
    have e : w.heap.size + 1 = (w.alloc (.cells #[.bool m0, .slice A0 d0.length c0] 30)).heap.size := by simp
    rw [e]; exact World.cell?_alloc_new _ _ _ _
  have q3 : W0.cell? ⟨w.heap.size + 1, 1, none⟩ = some (.slice A1 d1.length c1) := by
    rw [← hW0]
    have e : w.heap.size + 1 = (w.alloc (.cells #[.bool m0, .slice A0 d0.length c0] 30)).heap.size := by simp
    rw [e]; exact World.cell?_alloc_new _ _ _ _
  have hs0 : w.heap.size + 2 ≤ W0.heap.size := by rw [← hW0]; simp
  clear hW0
  refine (known_n _ (tab_below htab h0)).mono ?_
  rintro e W1 ⟨rfl, h1⟩
  have bb := h0.trans (h1.mono h0.size)
  have hS := Lib.hid (show ∀ w', Below W0.heap.size W0 w' → (w'.cell? ⟨w.heap.size, 0, none⟩ = some (.bool m0) ∧ w'.cell? ⟨w.heap.size, 1, none⟩ = some (.slice A0 d0.length c0) ∧ w'.cell? ⟨w.heap.size + 1, 0, none⟩ = some (.bool m1) ∧ w'.cell? ⟨w.heap.size + 1, 1, none⟩ = some (.slice A1 d1.length c1)) from fun w' h =>
    ⟨(h.cell (p := ⟨w.heap.size, 0, none⟩) (by show w.heap.size < W0.heap.size; omega)).trans q0, (h.cell (p := ⟨w.heap.size, 1, none⟩) (by show w.heap.size < W0.heap.size; omega)).trans q1, (h.cell (p := ⟨w.heap.size + 1, 0, none⟩) (by show w.heap.size + 1 < W0.heap.size; omega)).trans q2, (h.cell (p := ⟨w.heap.size + 1, 1, none⟩) (by show w.heap.size + 1 < W0.heap.size; omega)).trans q3⟩)
  clear q0 q1 q2 q3 hs0
  have hk0 : Below W0.heap.size W0 W1.drew := h1.drew
  have bd : Below w.heap.size w W1.drew := bb.drew
  go_wp2_with fail
  go_region_held3 (fun w' => w'.cell? ⟨w.heap.size, 0, none⟩ = some (.bool m0) ∧ w'.cell? ⟨w.heap.size, 1, none⟩ = some (.slice A0 d0.length c0) ∧ w'.cell? ⟨w.heap.size + 1, 0, none⟩ = some (.bool m1) ∧ w'.cell? ⟨w.heap.size + 1, 1, none⟩ = some (.slice A1 d1.length c1)) (exact hS.out _ (by assumption)) (first
    | (go_at_call 12; (with_reducible refine (hM0.out _ (R0.out _ (by assumption))).mono ?_); rintro e w2 ⟨rfl, h2⟩; have bd := bd.trans (h2.mono bd.size); have hk0 := hk0.trans (h2.mono hk0.size))
    | (go_at_call 12; (with_reducible refine (hM1.out _ (R1.out _ (by assumption))).mono ?_); rintro e w2 ⟨rfl, h2⟩; have bd := bd.trans (h2.mono bd.size); have hk0 := hk0.trans (h2.mono hk0.size)))
  all_goals
    clear hS hM0 hM1 R0 R1 hk0
    go_wp2_with (first
      | (go_at_call 21; (with_reducible refine (sign_n a _ ).mono ?_); rintro e w3 ⟨rfl, h3⟩; subst h3)
      | (go_at_call 22; (with_reducible refine (hRt.out _ (tab_below htab bd)).mono ?_); rintro e w3 ⟨rfl, h3⟩; have bd := bd.trans (h3.mono bd.size))
      | (go_at_call 23; (with_reducible refine (hA1.out _ (tab_below htab bd)).mono ?_); rintro e w3 ⟨rfl, h3⟩; have bd := bd.trans (h3.mono bd.size))
      | (go_at_call 13; (with_reducible refine (mul_n r r _ (by omega) (by omega) (tab_below htab bd)).mono ?_); rintro e w3 ⟨rfl, h3⟩; have bd := bd.trans (h3.mono bd.size))
      | (go_at_call 24; (with_reducible refine (compare_n (r * r) a _ (by omega) (by omega)).mono ?_); rintro e w3 ⟨rfl, h3⟩; subst h3)
      | (go_at_call 13; (with_reducible refine (mul_n (r + 1) (r + 1) _ (by omega) (by omega) (tab_below htab bd)).mono ?_); rintro e w3 ⟨rfl, h3⟩; have bd := bd.trans (h3.mono bd.size))
      | (go_at_call 24; (with_reducible refine (compare_n ((r + 1) * (r + 1)) a _ (by omega) (by omega)).mono ?_); rintro e w3 ⟨rfl, h3⟩; subst h3))
    all_goals (go_ret)
    all_goals (exact ⟨by simp, bd⟩)

set_option maxHeartbeats 2000000 in
set_option maxRecDepth 100000 in
theorem law_remains_00 (m0 m1 : Bool) (A0 A1 : Option Addr) (c0 c1 : Nat) (d0 d1 : List Int) (w : World)
    (r0 : RdB w A0 d0) (r1 : RdB w A1 d1) (b0 : ∀ k, k < d0.length → 0 ≤ d0.getD k 0 ∧ d0.getD k 0 < 256) (b1 : ∀ k, k < d1.length → 0 ≤ d1.getD k 0 ∧ d1.getD k 0 < 256)
    (htab : TabIs Tryd.prog w "internal/strconv.uint64pow10" .u64 pow10Tab)
    (ha : 0 ≤ makeVal m0 d0 30) (hb : makeVal m1 d1 30 ≠ 0) :
    Calls Tryd.prog 7 #[.agg #[.bool m0, .slice A0 d0.length c0], .agg #[.bool m1, .slice A1 d1.length c1]] w fun e w' => e = .returned (.bool true) ∧ Below w.heap.size w w' := by
  have hM0 := Lib.hid (fun w hr => make_i 30 m0 A0 c0 d0 30 rfl w hr b0 (by decide))
  have hM1 := Lib.hid (fun w hr => make_i 30 m1 A1 c1 d1 30 rfl w hr b1 (by decide))
  have la := makeVal_len m0 d0 30 (by decide)
  have lb := makeVal_len m1 d1 30 (by decide)
  generalize makeVal m0 d0 30 = a at *
  generalize makeVal m1 d1 30 = b at *
  have R0 := Lib.hid (fun w' (h : Below w.heap.size w w') => r0.below h)
  have R1 := Lib.hid (fun w' (h : Below w.heap.size w w') => r1.below h)
  obtain ⟨s1, s2⟩ := sign_bound a
  have hsg := sign_nonneg ha
  obtain ⟨r, hr0, hr1, hr2, lr⟩ := root_facts (by decide) ha la
  have hRt := Lib.hid (fun w htab => root_n a r w ha (by omega) (fun z hz => divAt_all (lim_nonneg (K := 900000) ha la (by decide)) hz) hr0 hr1 hr2 htab)
  have hA1 := Lib.hid (fun w htab => add_n r 1 w (by omega) (by rw [itoa_one]; decide) htab)
  rw [itoa_one] at hA1
  have lr1 := add_len lr (show (itoa 1).length ≤ 32 by rw [itoa_one]; decide)
  have lrr := mul_len (by decide) lr lr
  have lrr1 := mul_len (by decide) lr1 lr1
  have hc1 := cmp_le hr1
  have hc2 : ¬ cmpI ((r + 1) * (r + 1)) a ≤ 0 := by rw [cmpI_gt hr2]; decide
  have hbz : (itoa b == [48]) = false := by rw [beq_eq_false_iff_ne]; intro e; exact hb (itoa_eq_zero.1 e)
  have hDM := Lib.hid (fun w htab => divmod_n a b w hb (by omega) (by omega) (divAt_all (lim_abs (K := 900000) la (by decide)) (by omega)) htab)
  obtain ⟨lq, lm⟩ := div_lens (by decide) (by decide) hb la lb
  have lqb := mul_len (by decide) lq lb
  have lab := len_of_natAbs (y := (b.natAbs : Int)) (by decide) lb (by simp)
  have HDM := Lib.hid (Int.ediv_mul_add_emod a b)
  obtain ⟨t1, t2⟩ := sign_bound (a % b)
  have hm0 := sign_nonneg (Int.emod_nonneg a hb)
  have hm1 : cmpI (a % b) (b.natAbs : Int) < 0 := by rw [cmpI_lt (Int.emod_lt a hb)]; decide
  clear b0 b1 r0 r1
  go_enter Tryd.func7, Tryd.ntmps7
  go_wp2_with fail
  generalize hW0 : (w.alloc (.cells #[.bool m0, .slice A0 d0.length c0] 30)).alloc (.cells #[.bool m1, .slice A1 d1.length c1] 30) = W0
  have h0 : Below w.heap.size w W0 := by rw [← hW0]; exact ((Below.refl _ _).alloc (Nat.le_refl _) _).alloc (by simp) _
  have q0 : W0.cell? ⟨w.heap.size, 0, none⟩ = some (.bool m0) := by
    rw [← hW0]; exact (((Below.refl (w.alloc (.cells #[.bool m0, .slice A0 d0.length c0] 30)).heap.size _).alloc (Nat.le_refl _) _).cell (p := ⟨w.heap.size, 0, none⟩) (by simp)).trans (by simp)
  have q1 : W0.cell? ⟨w.heap.size, 1, none⟩ = some (.slice A0 d0.length c0) := by
    rw [← hW0]; exact (((Below.refl (w.alloc (.cells #[.bool m0, .slice A0 d0.length c0] 30)).heap.size _).alloc (Nat.le_refl _) _).cell (p := ⟨w.heap.size, 1, none⟩) (by simp)).trans (by simp)
  have q2 : W0.cell? ⟨w.heap.size + 1, 0, none⟩ = some (.bool m1) := by
    rw [← hW0]
    have e : w.heap.size + 1 = (w.alloc (.cells #[.bool m0, .slice A0 d0.length c0] 30)).heap.size := by simp
    rw [e]; exact World.cell?_alloc_new _ _ _ _
  have q3 : W0.cell? ⟨w.heap.size + 1, 1, none⟩ = some (.slice A1 d1.length c1) := by
    rw [← hW0]
    have e : w.heap.size + 1 = (w.alloc (.cells #[.bool m0, .slice A0 d0.length c0] 30)).heap.size := by simp
    rw [e]; exact World.cell?_alloc_new _ _ _ _
  have hs0 : w.heap.size + 2 ≤ W0.heap.size := by rw [← hW0]; simp
  clear hW0
  refine (known_n _ (tab_below htab h0)).mono ?_
  rintro e W1 ⟨rfl, h1⟩
  have bb := h0.trans (h1.mono h0.size)
  have hS := Lib.hid (show ∀ w', Below W0.heap.size W0 w' → (w'.cell? ⟨w.heap.size, 0, none⟩ = some (.bool m0) ∧ w'.cell? ⟨w.heap.size, 1, none⟩ = some (.slice A0 d0.length c0) ∧ w'.cell? ⟨w.heap.size + 1, 0, none⟩ = some (.bool m1) ∧ w'.cell? ⟨w.heap.size + 1, 1, none⟩ = some (.slice A1 d1.length c1)) from fun w' h =>
    ⟨(h.cell (p := ⟨w.heap.size, 0, none⟩) (by show w.heap.size < W0.heap.size; omega)).trans q0, (h.cell (p := ⟨w.heap.size, 1, none⟩) (by show w.heap.size < W0.heap.size; omega)).trans q1, (h.cell (p := ⟨w.heap.size + 1, 0, none⟩) (by show w.heap.size + 1 < W0.heap.size; omega)).trans q2, (h.cell (p := ⟨w.heap.size + 1, 1, none⟩) (by show w.heap.size + 1 < W0.heap.size; omega)).trans q3⟩)
  clear q0 q1 q2 q3 hs0
  have hk0 : Below W0.heap.size W0 W1.drew := h1.drew
  have bd : Below w.heap.size w W1.drew := bb.drew
  go_wp2_with fail
  go_region_held3 (fun w' => w'.cell? ⟨w.heap.size, 0, none⟩ = some (.bool m0) ∧ w'.cell? ⟨w.heap.size, 1, none⟩ = some (.slice A0 d0.length c0) ∧ w'.cell? ⟨w.heap.size + 1, 0, none⟩ = some (.bool m1) ∧ w'.cell? ⟨w.heap.size + 1, 1, none⟩ = some (.slice A1 d1.length c1)) (exact hS.out _ (by assumption)) (first
    | (go_at_call 12; (with_reducible refine (hM0.out _ (R0.out _ (by assumption))).mono ?_); rintro e w2 ⟨rfl, h2⟩; have bd := bd.trans (h2.mono bd.size); have hk0 := hk0.trans (h2.mono hk0.size))
    | (go_at_call 12; (with_reducible refine (hM1.out _ (R1.out _ (by assumption))).mono ?_); rintro e w2 ⟨rfl, h2⟩; have bd := bd.trans (h2.mono bd.size); have hk0 := hk0.trans (h2.mono hk0.size)))
  all_goals
    clear hS hM0 hM1 R0 R1 hk0
    go_wp2_with (first
      | (go_at_call 21; (with_reducible refine (sign_n a _ ).mono ?_); rintro e w3 ⟨rfl, h3⟩; subst h3)
      | (go_at_call 22; (with_reducible refine (hRt.out _ (tab_below htab bd)).mono ?_); rintro e w3 ⟨rfl, h3⟩; have bd := bd.trans (h3.mono bd.size))
      | (go_at_call 23; (with_reducible refine (hA1.out _ (tab_below htab bd)).mono ?_); rintro e w3 ⟨rfl, h3⟩; have bd := bd.trans (h3.mono bd.size))
      | (go_at_call 13; (with_reducible refine (mul_n r r _ (by omega) (by omega) (tab_below htab bd)).mono ?_); rintro e w3 ⟨rfl, h3⟩; have bd := bd.trans (h3.mono bd.size))
      | (go_at_call 24; (with_reducible refine (compare_n (r * r) a _ (by omega) (by omega)).mono ?_); rintro e w3 ⟨rfl, h3⟩; subst h3)
      | (go_at_call 13; (with_reducible refine (mul_n (r + 1) (r + 1) _ (by omega) (by omega) (tab_below htab bd)).mono ?_); rintro e w3 ⟨rfl, h3⟩; have bd := bd.trans (h3.mono bd.size))
      | (go_at_call 24; (with_reducible refine (compare_n ((r + 1) * (r + 1)) a _ (by omega) (by omega)).mono ?_); rintro e w3 ⟨rfl, h3⟩; subst h3)
      | (go_at_call 25; (with_reducible refine (hDM.out _ (tab_below htab bd)).mono ?_); rintro e w3 ⟨rfl, h3⟩; have bd := bd.trans (h3.mono bd.size))
      | (go_at_call 13; (with_reducible refine (mul_n (a / b) b _ (by omega) (by omega) (tab_below htab bd)).mono ?_); rintro e w3 ⟨rfl, h3⟩; have bd := bd.trans (h3.mono bd.size))
      | (go_at_call 23; (with_reducible refine (add_n (a / b * b) (a % b) _ (by omega) (by omega) (tab_below htab bd)).mono ?_); rintro e w3 ⟨rfl, h3⟩; rw [HDM.out]; have bd := bd.trans (h3.mono bd.size))
      | (go_at_call 21; (with_reducible refine (sign_n (a % b) _ ).mono ?_); rintro e w3 ⟨rfl, h3⟩; subst h3)
      | (go_at_call 26; (with_reducible refine (abs_n b _ ).mono ?_); rintro e w3 ⟨rfl, h3⟩; subst h3)
      | (go_at_call 24; (with_reducible refine (compare_n (a % b) (b.natAbs : Int) _ (by omega) (by omega)).mono ?_); rintro e w3 ⟨rfl, h3⟩; subst h3))
    all_goals (go_ret)
    all_goals (exact ⟨by simp, bd⟩)

end Go.Proofs.YtpjknkembghjcaaDoor

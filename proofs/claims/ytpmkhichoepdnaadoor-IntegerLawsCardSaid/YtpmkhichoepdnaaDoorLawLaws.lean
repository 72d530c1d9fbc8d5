/- IntegerLaws: the law's walk. -/
import Derived.Test.YtpmkhichoepdnaaDoorKnown
import Derived.Test.YtpmkhichoepdnaaDoorMake
import Derived.Test.YtpmkhichoepdnaaDoorSub
import Derived.Test.YtpmkhichoepdnaaDoorCompare
set_option linter.unusedVariables false
set_option linter.unusedSimpArgs false
namespace Go.Proofs.YtpmkhichoepdnaaDoor
open Go.RowKit Go.Lib Go.Proofs.YtpmkhichoepdnaaDoor.Dec Go.Proofs.YtpmkhichoepdnaaDoor.Mag Go.Proofs.YtpmkhichoepdnaaDoor.Chunk

theorem cmp_add (a b c : Int) : cmpI (a + c) (b + c) = cmpI a b := by
  rcases Int.lt_trichotomy a b with h | h | h
  · rw [cmpI_lt h, cmpI_lt (by omega)]
  · rw [cmpI_eq h, cmpI_eq (by omega)]
  · rw [cmpI_gt h, cmpI_gt (by omega)]

set_option maxHeartbeats 2000000 in
set_option maxRecDepth 100000 in
theorem law_laws (m0 m1 m2 : Bool) (A0 A1 A2 : Option Addr) (c0 c1 c2 : Nat) (d0 d1 d2 : List Int) (w : World)
    (r0 : RdB w A0 d0) (r1 : RdB w A1 d1) (r2 : RdB w A2 d2) (b0 : ∀ k, k < d0.length → 0 ≤ d0.getD k 0 ∧ d0.getD k 0 < 256) (b1 : ∀ k, k < d1.length → 0 ≤ d1.getD k 0 ∧ d1.getD k 0 < 256) (b2 : ∀ k, k < d2.length → 0 ≤ d2.getD k 0 ∧ d2.getD k 0 < 256)
    (htab : TabIs Tryd.prog w "internal/strconv.uint64pow10" .u64 pow10Tab) :
    Calls Tryd.prog 8 #[.agg #[.bool m0, .slice A0 d0.length c0], .agg #[.bool m1, .slice A1 d1.length c1], .agg #[.bool m2, .slice A2 d2.length c2]] w fun e w' => e = .returned (.bool true) ∧ Below w.heap.size w w' := by
  have hM0 := Lib.hid (fun w hr => make_i 24 m0 A0 c0 d0 24 rfl w hr b0 (by decide))
  have hM1 := Lib.hid (fun w hr => make_i 24 m1 A1 c1 d1 24 rfl w hr b1 (by decide))
  have hM2 := Lib.hid (fun w hr => make_i 24 m2 A2 c2 d2 24 rfl w hr b2 (by decide))
  have la := makeVal_len m0 d0 24 (by decide)
  have lb := makeVal_len m1 d1 24 (by decide)
  have lc := makeVal_len m2 d2 24 (by decide)
  generalize makeVal m0 d0 24 = a at *
  generalize makeVal m1 d1 24 = b at *
  generalize makeVal m2 d2 24 = c at *
  have R0 := Lib.hid (fun w' (h : Below w.heap.size w w') => r0.below h)
  have R1 := Lib.hid (fun w' (h : Below w.heap.size w w') => r1.below h)
  have R2 := Lib.hid (fun w' (h : Below w.heap.size w w') => r2.below h)
  have lab := add_len la lb
  have lac := add_len la lc
  have lbc := add_len lb lc
  have lca := mul_len (by decide) lc la
  have lcb := mul_len (by decide) lc lb
  clear b0 b1 b2 r0 r1 r2
  go_enter Tryd.func8, Tryd.ntmps8
  go_wp2_with fail
  generalize hW0 : ((w.alloc (.cells #[.bool m0, .slice A0 d0.length c0] 30)).alloc (.cells #[.bool m1, .slice A1 d1.length c1] 30)).alloc (.cells #[.bool m2, .slice A2 d2.length c2] 30) = W0
  have h0 : Below w.heap.size w W0 := by rw [← hW0]; exact (((Below.refl _ _).alloc (Nat.le_refl _) _).alloc (by simp) _).alloc (by simp; omega) _
  have q0 : W0.cell? ⟨w.heap.size, 0, none⟩ = some (.bool m0) := by
    rw [← hW0]; exact ((((Below.refl (w.alloc (.cells #[.bool m0, .slice A0 d0.length c0] 30)).heap.size _).alloc (Nat.le_refl _) _).alloc (by simp) _).cell (p := ⟨w.heap.size, 0, none⟩) (by simp)).trans (by simp)
  have q1 : W0.cell? ⟨w.heap.size, 1, none⟩ = some (.slice A0 d0.length c0) := by
    rw [← hW0]; exact ((((Below.refl (w.alloc (.cells #[.bool m0, .slice A0 d0.length c0] 30)).heap.size _).alloc (Nat.le_refl _) _).alloc (by simp) _).cell (p := ⟨w.heap.size, 1, none⟩) (by simp)).trans (by simp)
  have q2 : W0.cell? ⟨w.heap.size + 1, 0, none⟩ = some (.bool m1) := by
    rw [← hW0]; exact (((Below.refl ((w.alloc (.cells #[.bool m0, .slice A0 d0.length c0] 30)).alloc (.cells #[.bool m1, .slice A1 d1.length c1] 30)).heap.size _).alloc (Nat.le_refl _) _).cell (p := ⟨w.heap.size + 1, 0, none⟩) (by simp)).trans (by simp)
  have q3 : W0.cell? ⟨w.heap.size + 1, 1, none⟩ = some (.slice A1 d1.length c1) := by
    rw [← hW0]; exact (((Below.refl ((w.alloc (.cells #[.bool m0, .slice A0 d0.length c0] 30)).alloc (.cells #[.bool m1, .slice A1 d1.length c1] 30)).heap.size _).alloc (Nat.le_refl _) _).cell (p := ⟨w.heap.size + 1, 1, none⟩) (by simp)).trans (by simp)
  have q4 : W0.cell? ⟨w.heap.size + 2, 0, none⟩ = some (.bool m2) := by
    rw [← hW0]
    have e : w.heap.size + 2 = ((w.alloc (.cells #[.bool m0, .slice A0 d0.length c0] 30)).alloc (.cells #[.bool m1, .slice A1 d1.length c1] 30)).heap.size := by simp
    rw [e]; exact World.cell?_alloc_new _ _ _ _
  have q5 : W0.cell? ⟨w.heap.size + 2, 1, none⟩ = some (.slice A2 d2.length c2) := by
    rw [← hW0]
    have e : w.heap.size + 2 = ((w.alloc (.cells #[.bool m0, .slice A0 d0.length c0] 30)).alloc (.cells #[.bool m1, .slice A1 d1.length c1] 30)).heap.size := by simp
    rw [e]; exact World.cell?_alloc_new _ _ _ _
  have hs0 : w.heap.size + 3 ≤ W0.heap.size := by rw [← hW0]; simp
  clear hW0
  refine (known_n _ (tab_below htab h0)).mono ?_
  rintro e W1 ⟨rfl, h1⟩
  have bb := h0.trans (h1.mono h0.size)
  have hS := Lib.hid (show ∀ w', Below W0.heap.size W0 w' → (w'.cell? ⟨w.heap.size, 0, none⟩ = some (.bool m0) ∧ w'.cell? ⟨w.heap.size, 1, none⟩ = some (.slice A0 d0.length c0) ∧ w'.cell? ⟨w.heap.size + 1, 0, none⟩ = some (.bool m1) ∧ w'.cell? ⟨w.heap.size + 1, 1, none⟩ = some (.slice A1 d1.length c1) ∧ w'.cell? ⟨w.heap.size + 2, 0, none⟩ = some (.bool m2) ∧ w'.cell? ⟨w.heap.size + 2, 1, none⟩ = some (.slice A2 d2.length c2)) from fun w' h =>
    ⟨(h.cell (p := ⟨w.heap.size, 0, none⟩) (by show w.heap.size < W0.heap.size; omega)).trans q0, (h.cell (p := ⟨w.heap.size, 1, none⟩) (by show w.heap.size < W0.heap.size; omega)).trans q1, (h.cell (p := ⟨w.heap.size + 1, 0, none⟩) (by show w.heap.size + 1 < W0.heap.size; omega)).trans q2, (h.cell (p := ⟨w.heap.size + 1, 1, none⟩) (by show w.heap.size + 1 < W0.heap.size; omega)).trans q3, (h.cell (p := ⟨w.heap.size + 2, 0, none⟩) (by show w.heap.size + 2 < W0.heap.size; omega)).trans q4, (h.cell (p := ⟨w.heap.size + 2, 1, none⟩) (by show w.heap.size + 2 < W0.heap.size; omega)).trans q5⟩)
  clear q0 q1 q2 q3 q4 q5 hs0
  have hk0 : Below W0.heap.size W0 W1.drew := h1.drew
  have bd : Below w.heap.size w W1.drew := bb.drew
  go_wp2_with fail
  go_region_held3 (fun w' => w'.cell? ⟨w.heap.size, 0, none⟩ = some (.bool m0) ∧ w'.cell? ⟨w.heap.size, 1, none⟩ = some (.slice A0 d0.length c0) ∧ w'.cell? ⟨w.heap.size + 1, 0, none⟩ = some (.bool m1) ∧ w'.cell? ⟨w.heap.size + 1, 1, none⟩ = some (.slice A1 d1.length c1) ∧ w'.cell? ⟨w.heap.size + 2, 0, none⟩ = some (.bool m2) ∧ w'.cell? ⟨w.heap.size + 2, 1, none⟩ = some (.slice A2 d2.length c2)) (exact hS.out _ (by assumption)) (first
    | (go_at_call 12; (with_reducible refine (hM0.out _ (R0.out _ (by assumption))).mono ?_); rintro e w2 ⟨rfl, h2⟩; have bd := bd.trans (h2.mono bd.size); have hk0 := hk0.trans (h2.mono hk0.size))
    | (go_at_call 12; (with_reducible refine (hM1.out _ (R1.out _ (by assumption))).mono ?_); rintro e w2 ⟨rfl, h2⟩; have bd := bd.trans (h2.mono bd.size); have hk0 := hk0.trans (h2.mono hk0.size))
    | (go_at_call 12; (with_reducible refine (hM2.out _ (R2.out _ (by assumption))).mono ?_); rintro e w2 ⟨rfl, h2⟩; have bd := bd.trans (h2.mono bd.size); have hk0 := hk0.trans (h2.mono hk0.size)))
  all_goals
    clear hS hM0 hM1 hM2 R0 R1 R2 hk0
    go_wp2_with (first
      | (go_at_call 23; (with_reducible refine (add_n a b _ (by omega) (by omega) (tab_below htab bd)).mono ?_); rintro e w3 ⟨rfl, h3⟩; have bd := bd.trans (h3.mono bd.size))
      | (go_at_call 13; (with_reducible refine (mul_n a b _ (by omega) (by omega) (tab_below htab bd)).mono ?_); rintro e w3 ⟨rfl, h3⟩; have bd := bd.trans (h3.mono bd.size))
      | (go_at_call 23; (with_reducible refine (add_n b a _ (by omega) (by omega) (tab_below htab bd)).mono ?_); rintro e w3 ⟨rfl, h3⟩; rw [Int.add_comm b a]; have bd := bd.trans (h3.mono bd.size))
      | (go_at_call 13; (with_reducible refine (mul_n b a _ (by omega) (by omega) (tab_below htab bd)).mono ?_); rintro e w3 ⟨rfl, h3⟩; rw [Int.mul_comm b a]; have bd := bd.trans (h3.mono bd.size))
      | (go_at_call 27; (with_reducible refine (sub_n (a + b) b _ (by omega) (by omega) (tab_below htab bd)).mono ?_); rintro e w3 ⟨rfl, h3⟩; rw [show a + b - b = a by omega]; have bd := bd.trans (h3.mono bd.size))
      | (go_at_call 13; (with_reducible refine (mul_n c (a + b) _ (by omega) (by omega) (tab_below htab bd)).mono ?_); rintro e w3 ⟨rfl, h3⟩; rw [Int.mul_add]; have bd := bd.trans (h3.mono bd.size))
      | (go_at_call 13; (with_reducible refine (mul_n c a _ (by omega) (by omega) (tab_below htab bd)).mono ?_); rintro e w3 ⟨rfl, h3⟩; have bd := bd.trans (h3.mono bd.size))
      | (go_at_call 13; (with_reducible refine (mul_n c b _ (by omega) (by omega) (tab_below htab bd)).mono ?_); rintro e w3 ⟨rfl, h3⟩; have bd := bd.trans (h3.mono bd.size))
      | (go_at_call 23; (with_reducible refine (add_n (c * a) (c * b) _ (by omega) (by omega) (tab_below htab bd)).mono ?_); rintro e w3 ⟨rfl, h3⟩; have bd := bd.trans (h3.mono bd.size))
      | (go_at_call 23; (with_reducible refine (add_n a c _ (by omega) (by omega) (tab_below htab bd)).mono ?_); rintro e w3 ⟨rfl, h3⟩; have bd := bd.trans (h3.mono bd.size))
      | (go_at_call 23; (with_reducible refine (add_n b c _ (by omega) (by omega) (tab_below htab bd)).mono ?_); rintro e w3 ⟨rfl, h3⟩; have bd := bd.trans (h3.mono bd.size))
      | (go_at_call 24; (with_reducible refine (compare_n (a + c) (b + c) _ (by omega) (by omega)).mono ?_); rintro e w3 ⟨rfl, h3⟩; subst h3; rw [cmp_add])
      | (go_at_call 24; (with_reducible refine (compare_n a b _ (by omega) (by omega)).mono ?_); rintro e w3 ⟨rfl, h3⟩; subst h3))
    all_goals (go_ret)
    all_goals (exact ⟨by simp, bd⟩)

end Go.Proofs.YtpmkhichoepdnaaDoor

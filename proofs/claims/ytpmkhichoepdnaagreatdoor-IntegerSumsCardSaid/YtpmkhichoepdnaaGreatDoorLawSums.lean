/- IntegerSums: the law's walk. Printed by gen_law2.py. -/
import Derived.Test.YtpmkhichoepdnaaGreatDoorKnown
import Derived.Test.YtpmkhichoepdnaaGreatDoorMake
import Derived.Test.YtpmkhichoepdnaaGreatDoorRefAdd
import Derived.Test.YtpmkhichoepdnaaGreatDoorSub
set_option linter.unusedVariables false
set_option linter.unusedSimpArgs false
namespace Go.Proofs.YtpmkhichoepdnaaGreatDoor
open Go.RowKit Go.Lib Go.Proofs.YtpmkhichoepdnaaGreatDoor.Dec Go.Proofs.YtpmkhichoepdnaaGreatDoor.Mag Go.Proofs.YtpmkhichoepdnaaGreatDoor.Chunk

set_option maxHeartbeats 2000000 in
set_option maxRecDepth 100000 in
theorem law_sums (m0 m1 : Bool) (A0 A1 : Option Addr) (c0 c1 : Nat) (d0 d1 : List Int) (w : World)
    (r0 : RdB w A0 d0) (r1 : RdB w A1 d1) (b0 : ∀ k, k < d0.length → 0 ≤ d0.getD k 0 ∧ d0.getD k 0 < 256) (b1 : ∀ k, k < d1.length → 0 ≤ d1.getD k 0 ∧ d1.getD k 0 < 256)
    (htab : TabIs Tryz.prog w "internal/strconv.uint64pow10" .u64 pow10Tab) :
    Calls Tryz.prog 7 #[.agg #[.bool m0, .slice A0 d0.length c0], .agg #[.bool m1, .slice A1 d1.length c1]] w fun e w' => e = .returned (.bool true) ∧ Below w.heap.size w w' := by
  have hM0 := Lib.hid (fun w hr => make_i 70 m0 A0 c0 d0 70 rfl w hr b0 (by decide))
  have hM1 := Lib.hid (fun w hr => make_i 70 m1 A1 c1 d1 70 rfl w hr b1 (by decide))
  have la := makeVal_len m0 d0 70 (by decide)
  have lb := makeVal_len m1 d1 70 (by decide)
  generalize makeVal m0 d0 70 = a at *
  generalize makeVal m1 d1 70 = b at *
  have R0 := Lib.hid (fun w' (h : Below w.heap.size w w') => r0.below h)
  have R1 := Lib.hid (fun w' (h : Below w.heap.size w w') => r1.below h)

  clear b0 b1 r0 r1
  go_enter Tryz.func7, Tryz.ntmps7
  go_wp2_with fail
  generalize hW0 : (w.alloc (.cells #[.bool m0, .slice A0 d0.length c0] 24)).alloc (.cells #[.bool m1, .slice A1 d1.length c1] 24) = W0
  have h0 : Below w.heap.size w W0 := by rw [← hW0]; exact ((Below.refl _ _).alloc (Nat.le_refl _) _).alloc (by simp) _
  have q0 : W0.cell? ⟨w.heap.size, 0, none⟩ = some (.bool m0) := by
    rw [← hW0]; exact (((Below.refl (w.alloc (.cells #[.bool m0, .slice A0 d0.length c0] 24)).heap.size _).alloc (Nat.le_refl _) _).cell (p := ⟨w.heap.size, 0, none⟩) (by simp)).trans (by simp)
  have q1 : W0.cell? ⟨w.heap.size, 1, none⟩ = some (.slice A0 d0.length c0) := by
    rw [← hW0]; exact (((Below.refl (w.alloc (.cells #[.bool m0, .slice A0 d0.length c0] 24)).heap.size _).alloc (Nat.le_refl _) _).cell (p := ⟨w.heap.size, 1, none⟩) (by simp)).trans (by simp)
  have q2 : W0.cell? ⟨w.heap.size + 1, 0, none⟩ = some (.bool m1) := by
    rw [← hW0]
    have e : w.heap.size + 1 = (w.alloc (.cells #[.bool m0, .slice A0 d0.length c0] 24)).heap.size := by simp
    rw [e]; exact World.cell?_alloc_new _ _ _ _
  have q3 : W0.cell? ⟨w.heap.size + 1, 1, none⟩ = some (.slice A1 d1.length c1) := by
    rw [← hW0]
    have e : w.heap.size + 1 = (w.alloc (.cells #[.bool m0, .slice A0 d0.length c0] 24)).heap.size := by simp
    rw [e]; exact World.cell?_alloc_new _ _ _ _
  have hs0 : w.heap.size + 2 ≤ W0.heap.size := by rw [← hW0]; simp
  clear hW0
  refine (known_n _ (tab_below htab h0)).mono ?_
  rintro e W1 ⟨rfl, h1⟩
  have bb := h0.trans (h1.mono h0.size)
  have hS := Lib.hid (show ∀ w', Below W0.heap.size W0 w' → (w'.cell? ⟨w.heap.size, 0, none⟩ = some (.bool m0) ∧ w'.cell? ⟨w.heap.size, 1, none⟩ = some (.slice A0 d0.length c0) ∧ w'.cell? ⟨w.heap.size + 1, 0, none⟩ = some (.bool m1) ∧ w'.cell? ⟨w.heap.size + 1, 1, none⟩ = some (.slice A1 d1.length c1)) from fun w' h =>
    ⟨(h.cell (p := ⟨w.heap.size, 0, none⟩) (by show w.heap.size < W0.heap.size; omega)).trans q0, (h.cell (p := ⟨w.heap.size, 1, none⟩) (by show w.heap.size < W0.heap.size; omega)).trans q1, (h.cell (p := ⟨w.heap.size + 1, 0, none⟩) (by show w.heap.size + 1 < W0.heap.size; omega)).trans q2, (h.cell (p := ⟨w.heap.size + 1, 1, none⟩) (by show w.heap.size + 1 < W0.heap.size; omega)).trans q3⟩)
  clear q0 q1 q2 q3 hs0
  have hk0 : Below W0.heap.size W0 W1.drew := h1.drew
  have bd : Below w.heap.size w W1.drew := bb.drew
  go_wp2_with fail
  go_region_held3 (fun w' => w'.cell? ⟨w.heap.size, 0, none⟩ = some (.bool m0) ∧ w'.cell? ⟨w.heap.size, 1, none⟩ = some (.slice A0 d0.length c0) ∧ w'.cell? ⟨w.heap.size + 1, 0, none⟩ = some (.bool m1) ∧ w'.cell? ⟨w.heap.size + 1, 1, none⟩ = some (.slice A1 d1.length c1)) (exact hS.out _ (by assumption)) (first
    | (go_at_call 10; (with_reducible refine (hM0.out _ (R0.out _ (by assumption))).mono ?_); rintro e w2 ⟨rfl, h2⟩; have bd := bd.trans (h2.mono bd.size); have hk0 := hk0.trans (h2.mono hk0.size))
    | (go_at_call 10; (with_reducible refine (hM1.out _ (R1.out _ (by assumption))).mono ?_); rintro e w2 ⟨rfl, h2⟩; have bd := bd.trans (h2.mono bd.size); have hk0 := hk0.trans (h2.mono hk0.size)))
  all_goals
    clear hS hM0 hM1 R0 R1 hk0
    go_wp2_with (first
      | (go_at_call 24; (with_reducible refine (add_n a b _ (by omega) (by omega) (tab_below htab bd)).mono ?_); rintro e w3 ⟨rfl, h3⟩; have bd := bd.trans (h3.mono bd.size))
      | (go_at_call 16; (with_reducible refine (ref_add_n a b _ (by omega) (by omega) (tab_below htab bd)).mono ?_); rintro e w3 ⟨rfl, h3⟩; have bd := bd.trans (h3.mono bd.size))
      | (go_at_call 25; (with_reducible refine (sub_n a b _ (by omega) (by omega) (tab_below htab bd)).mono ?_); rintro e w3 ⟨rfl, h3⟩; have bd := bd.trans (h3.mono bd.size))
      | (go_at_call 26; (with_reducible refine (ref_sub_n a b _ (by omega) (by omega) (tab_below htab bd)).mono ?_); rintro e w3 ⟨rfl, h3⟩; have bd := bd.trans (h3.mono bd.size)))
    all_goals (go_ret)
    all_goals (exact ⟨by simp, bd⟩)

end Go.Proofs.YtpmkhichoepdnaaGreatDoor

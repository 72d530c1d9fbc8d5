/- integer.Add, integer.Sub. -/
import Derived.Test.YtpjknkembghjcaaGreatDoorMul
import Derived.Test.YtpjknkembghjcaaGreatDoorDivMod
import Derived.Test.YtpjknkembghjcaaGreatDoorPlus
import Derived.Test.YtpjknkembghjcaaGreatDoorMinus
import Derived.Test.YtpjknkembghjcaaGreatDoorNeg
import Derived.BigCall
set_option linter.unusedVariables false
set_option linter.unusedSimpArgs false
namespace Go.Proofs.YtpjknkembghjcaaGreatDoor
open Go.RowKit Go.Lib Go.Proofs.YtpjknkembghjcaaGreatDoor.Dec Go.Proofs.YtpjknkembghjcaaGreatDoor.Mag Go.Proofs.YtpjknkembghjcaaGreatDoor.Chunk

theorem add_same (x y : Int) {s : Bool} (hx : decide (x < 0) = s) (hy : decide (y < 0) = s) : (if s then -((x.natAbs : Int) + (y.natAbs : Int)) else (x.natAbs : Int) + (y.natAbs : Int)) = x + y := by
  cases s
  · have h1 : ¬ x < 0 := by simpa using hx
    have h2 : ¬ y < 0 := by simpa using hy
    rw [if_neg (by decide)]; omega
  · have h1 : x < 0 := by simpa using hx
    have h2 : y < 0 := by simpa using hy
    rw [if_pos rfl]; omega
theorem add_left (x y : Int) {s t : Bool} (hx : decide (x < 0) = s) (hy : decide (y < 0) = t) (hne : s ≠ t) : (if s then -((x.natAbs : Int) - (y.natAbs : Int)) else (x.natAbs : Int) - (y.natAbs : Int)) = x + y := by
  cases s <;> cases t
  · exact absurd rfl hne
  · have h1 : ¬ x < 0 := by simpa using hx
    have h2 : y < 0 := by simpa using hy
    rw [if_neg (by decide)]; omega
  · have h1 : x < 0 := by simpa using hx
    have h2 : ¬ y < 0 := by simpa using hy
    rw [if_pos rfl]; omega
  · exact absurd rfl hne

set_option maxHeartbeats 1000000 in
set_option maxRecDepth 100000 in
theorem add_quick (x y : Int) (w : World) (hx : (itoa x).length ≤ 18) (hy : (itoa y).length ≤ 18) (htab : TabIs Tryz.prog w "internal/strconv.uint64pow10" .u64 pow10Tab) :
    Calls Tryz.prog 24 #[.string ⟨(itoa x).toArray⟩, .string ⟨(itoa y).toArray⟩] w fun e w' => e = .returned (.string ⟨(itoa (x + y)).toArray⟩) ∧ Below w.heap.size w w' := by
  have bx := itoa_len_le hx
  have bY := itoa_len_le hy
  obtain ⟨bx1, bx2⟩ : -1000000000000000000 < x ∧ x < 1000000000000000000 := by omega
  obtain ⟨by1, by2⟩ : -1000000000000000000 < y ∧ y < 1000000000000000000 := by omega
  clear bx bY
  have hA := Lib.hid (quick_yes x 18 (by decide) w hx)
  go_enter Tryz.func24, Tryz.ntmps24
  go_wp2_with (first
    | (go_at_call 49; refine hA.out.mono ?_; rintro e w1 ⟨rfl, h1⟩; refine Hid.out ?_))
  refine Lib.hid ?_
  have hB := Lib.hid (quick_yes y 18 (by decide) w1 hy)
  go_wp2_with (first
    | (go_at_call 49; refine hB.out.mono ?_; rintro e w2 ⟨rfl, h2⟩; refine Hid.out ?_))
  refine Lib.hid ?_
  have h3 := h1.trans (h2.mono h1.size)
  have hC := Lib.hid (of_n (x + y) (by omega) (by omega) w2 (tab_below htab h3))
  clear hA hB
  go_wp2_with (first
    | (go_at_call 50; refine hC.out.mono ?_; rintro e w3 ⟨rfl, h4⟩))
  go_ret
  exact ⟨rfl, h3.trans (h4.mono h3.size)⟩

set_option maxHeartbeats 2000000 in
set_option maxRecDepth 100000 in
theorem add_long (x y : Int) (w : World) (hx : (itoa x).length ≤ 100000) (hy : (itoa y).length ≤ 100000) (hl : ¬ ((itoa x).length ≤ 18 ∧ (itoa y).length ≤ 18)) (htab : TabIs Tryz.prog w "internal/strconv.uint64pow10" .u64 pow10Tab) :
    Calls Tryz.prog 24 #[.string ⟨(itoa x).toArray⟩, .string ⟨(itoa y).toArray⟩] w fun e w' => e = .returned (.string ⟨(itoa (x + y)).toArray⟩) ∧ Below w.heap.size w w' := by
  go_enter Tryz.func24, Tryz.ntmps24
  by_cases h9 : (itoa x).length ≤ 18
  have hA := Lib.hid (quick_yes x 18 (by decide) w h9)
  go_wp2_with (first
    | (go_at_call 49; refine hA.out.mono ?_; rintro e W0 ⟨rfl, h0⟩; refine Hid.out ?_))
  refine Lib.hid ?_
  have hB := Lib.hid (quick_no y 18 (by decide) W0 (by omega))
  go_wp2_with (first
    | (go_at_call 49; refine hB.out.mono ?_; rintro e w2 ⟨rfl, hw2⟩; obtain rfl : W0 = w2 := hw2.symm; refine Hid.out ?_))
  refine Lib.hid ?_
  clear hA hB
  rotate_left
  have hA := Lib.hid (quick_no x 18 (by decide) w (by omega))
  go_wp2_with (first
    | (go_at_call 49; refine hA.out.mono ?_; rintro e w2 ⟨rfl, hw2⟩; obtain rfl : w = w2 := hw2.symm; refine Hid.out ?_))
  refine Lib.hid ?_
  clear hA
  have h0 : Below w.heap.size w w := Below.refl _ _
  all_goals
    go_wp2_with (go_at_call 36; refine (open_n x _ (by omega)).mono ?_; rintro e w3 ⟨p, rfl, hp, hb⟩; have h3 := h0.trans (hb.mono h0.size); refine Hid.out ?_)
    refine Lib.hid ?_
    go_wp2_with (go_at_call 36; refine (open_n y _ (by omega)).mono ?_; rintro e w4 ⟨q, rfl, hq, hc⟩; have h4 := h3.trans (hc.mono h3.size); refine Hid.out ?_)
    refine Lib.hid ?_
    have HP := Lib.hid (hp.mg.below (Nat.le_refl _) hc)
    have HQ := Lib.hid hq.mg
    clear hp hq hb hc h3 h0
    obtain ⟨a, n, c, zp, rfl, hrest⟩ := HP.out
    obtain ⟨a', n', c', zq, rfl, hrest'⟩ := HQ.out
    clear hrest hrest' hw2
    have BX := Lib.hid (lim_of_len1 (m := 100000) (by decide) (show (itoa x).length ≤ 9 * 100000 by omega))
    have BY := Lib.hid (lim_of_len1 (m := 100000) (by decide) (show (itoa y).length ≤ 9 * 100000 by omega))
    have BXY := Lib.hid (show (x.natAbs : Int) + (y.natAbs : Int) < LIM by
      have h1 := itoa_len_le (k := 100000) hx
      have h2 := itoa_len_le (k := 100000) hy
      refine lim_of_pow (k := 100001) (by decide) ?_
      have h3 := pow_mono_base 100000
      rw [show (100001 : Nat) = 100000 + 1 from rfl, Int.pow_succ]
      omega)
    have HA1 := Lib.hid (fun s h1 h2 => add_same x y (s := s) h1 h2)
    have HA2 := Lib.hid (fun s t h1 h2 h3 => add_left x y (s := s) (t := t) h1 h2 h3)
    have HA3 := Lib.hid (fun s t h1 h2 h3 => add_left y x (s := s) (t := t) h1 h2 h3)
    generalize hsx : decide (x < 0) = sx at *
    generalize hsy : decide (y < 0) = sy at *
    have HSX := Lib.hid hsx
    have HSY := Lib.hid hsy
    clear hsx hsy
    have X0 : 0 ≤ (x.natAbs : Int) := by omega
    have Y0 : 0 ≤ (y.natAbs : Int) := by omega
    generalize (x.natAbs : Int) = X at *
    generalize (y.natAbs : Int) = Y at *
    have hPm : ∀ W', Below w4.heap.size w4 W' → Mg W' (.slice a n c) X := fun W' h => HP.out.below (Nat.le_refl _) h
    have hQm : ∀ W', Below w4.heap.size w4 W' → Mg W' (.slice a' n' c') Y := fun W' h => HQ.out.below (Nat.le_refl _) h
    have hbm : ∀ W', Below w4.heap.size w4 W' → Below w.heap.size w W' := fun W' h => h4.trans (h.mono h4.size)
    clear HP HQ h4
    by_cases hss : sx = sy
    · subst hss
      have HR := Lib.hid (HA1.out sx rfl rfl)
      clear HA1 HA2 HA3
      go_wp2_with fail
      generalize hW5 : ((w4.alloc (.cells #[.bool sx, .slice a n c] 51)).alloc (.cells #[.bool sx, .slice a' n' c'] 51)) = W5
      have hB5 : Below w4.heap.size w4 W5 := by rw [← hW5]; exact ((Below.refl _ _).alloc (Nat.le_refl _) _).alloc (by simp) _
      have k1 : W5.cell? ⟨w4.heap.size, 0, none⟩ = some (.bool sx) := by rw [← hW5]; simp
      have k2 : W5.cell? ⟨w4.heap.size, 1, none⟩ = some (.slice a n c) := by rw [← hW5]; simp
      have k3 : W5.cell? ⟨w4.heap.size + 1, 0, none⟩ = some (.bool sx) := by rw [← hW5]; simp
      have k4 : W5.cell? ⟨w4.heap.size + 1, 1, none⟩ = some (.slice a' n' c') := by rw [← hW5]; simp
      have hs5 : w4.heap.size + 2 ≤ W5.heap.size := by rw [← hW5]; simp
      clear hW5
      generalize w4.heap.size = s at *
      have hS := Lib.hid (show ∀ w', Below W5.heap.size W5 w' → (w'.cell? ⟨s, 0, none⟩ = some (.bool sx) ∧ w'.cell? ⟨s, 1, none⟩ = some (.slice a n c) ∧ w'.cell? ⟨s + 1, 1, none⟩ = some (.slice a' n' c')) from fun w' h =>
        ⟨(h.cell (p := ⟨s, 0, none⟩) (by show s < W5.heap.size; omega)).trans k1, (h.cell (p := ⟨s, 1, none⟩) (by show s < W5.heap.size; omega)).trans k2, (h.cell (p := ⟨s + 1, 1, none⟩) (by show s + 1 < W5.heap.size; omega)).trans k4⟩)
      have hk0 : Below W5.heap.size W5 W5.drew := (Below.refl _ _).drew
      clear k1 k2 k3 k4
      go_region_held3 (fun w' => w'.cell? ⟨s, 0, none⟩ = some (.bool sx) ∧ w'.cell? ⟨s, 1, none⟩ = some (.slice a n c) ∧ w'.cell? ⟨s + 1, 1, none⟩ = some (.slice a' n' c')) (exact hS.out _ (by assumption)) (first
        | (go_at_call 38; (with_reducible refine (plus_mg (.slice a n c) (.slice a' n' c') X Y _ (hPm _ hB5.drew) (hQm _ hB5.drew) (by have := BX.out; omega) (by have := BY.out; omega)).mono ?_); rintro e w6 ⟨u, rfl, hu, hb⟩; have HU := Lib.hid (id hu); obtain ⟨a6, n6, c6, z6, rfl, hr6⟩ := id hu; have HB := Lib.hid ((hbm _ hB5.drew).trans (hb.mono (hbm _ hB5.drew).size)); have hk6 := hk0.trans (hb.mono (show W5.heap.size ≤ W5.drew.heap.size from Nat.le_refl _)); clear hu hb hr6)
        | (go_at_call 40; (with_reducible refine (close_n sx (.slice a6 n6 c6) (X + Y) _ HU.out BXY.out (tab_below htab HB.out)).mono ?_); rintro e w7 ⟨rfl, hb7⟩; rw [HR.out]; have HC := Lib.hid (HB.out.trans (hb7.mono HB.out.size)); have hk7 := hk6.trans (hb7.mono hk6.size); clear hb7))
      all_goals
        go_wp2
        go_ret
        exact ⟨rfl, HC.out⟩
    · have hne : (sx == sy) = false := beq_eq_false_iff_ne.2 hss
      have HR1 := Lib.hid (HA2.out sx sy rfl rfl hss)
      have HR2 := Lib.hid ((HA3.out sy sx rfl rfl (fun h => hss h.symm)).trans (Int.add_comm y x))
      clear HA1 HA2 HA3 hss
      go_wp2_with fail
      have k3 : ((w4.alloc (.cells #[.bool sx, .slice a n c] 51)).alloc (.cells #[.bool sy, .slice a' n' c'] 51)).frozen? ⟨w4.heap.size, 0, none⟩ = false := by simp
      have f1 : ((w4.alloc (.cells #[.bool sx, .slice a n c] 51)).alloc (.cells #[.bool sy, .slice a' n' c'] 51)).frozen? ⟨w4.heap.size, 1, none⟩ = false := by simp
      have f2 : ((w4.alloc (.cells #[.bool sx, .slice a n c] 51)).alloc (.cells #[.bool sy, .slice a' n' c'] 51)).frozen? ⟨w4.heap.size + 1, 0, none⟩ = false := by simp
      have f3 : ((w4.alloc (.cells #[.bool sx, .slice a n c] 51)).alloc (.cells #[.bool sy, .slice a' n' c'] 51)).frozen? ⟨w4.heap.size + 1, 1, none⟩ = false := by simp
      have f0 := k3
      clear k3
      generalize hW5 : ((w4.alloc (.cells #[.bool sx, .slice a n c] 51)).alloc (.cells #[.bool sy, .slice a' n' c'] 51)) = W5 at *
      have hB0 : Below w4.heap.size w4 W5 := by rw [← hW5]; exact ((Below.refl _ _).alloc (Nat.le_refl _) _).alloc (by simp) _
      have c1 : W5.cell? ⟨w4.heap.size, 0, none⟩ = some (.bool sx) := by rw [← hW5]; simp
      have c2 : W5.cell? ⟨w4.heap.size, 1, none⟩ = some (.slice a n c) := by rw [← hW5]; simp
      have c3 : W5.cell? ⟨w4.heap.size + 1, 0, none⟩ = some (.bool sy) := by rw [← hW5]; simp
      have c4 : W5.cell? ⟨w4.heap.size + 1, 1, none⟩ = some (.slice a' n' c') := by rw [← hW5]; simp
      have hs5 : w4.heap.size + 2 ≤ W5.heap.size := by rw [← hW5]; simp
      clear hW5
      generalize w4.heap.size = s at *
      refine (order_mg _ _ X Y _ (hPm _ hB0) (hQm _ hB0)).mono ?_
      rintro e w6 ⟨rfl, nn, rfl⟩
      have hB1 := below_drewN hB0 nn
      by_cases hlt : X < Y
      · rw [cmpI_lt hlt]
        have hle := Lib.hid (Int.le_of_lt hlt)
        have BD := Lib.hid (show Y - X < LIM by have := BY.out; omega)
        clear BXY hlt
        have d1 : (W5.drewN nn).cell? ⟨s, 0, none⟩ = some (.bool sx) := c1
        have d2 : (W5.drewN nn).cell? ⟨s, 1, none⟩ = some (.slice a n c) := c2
        have d3 : (W5.drewN nn).cell? ⟨s + 1, 0, none⟩ = some (.bool sy) := c3
        have d4 : (W5.drewN nn).cell? ⟨s + 1, 1, none⟩ = some (.slice a' n' c') := c4
        have e1 : (W5.drewN nn).frozen? ⟨s, 0, none⟩ = false := f0
        have e2 : (W5.drewN nn).frozen? ⟨s, 1, none⟩ = false := f1
        have e3 : (W5.drewN nn).frozen? ⟨s + 1, 0, none⟩ = false := f2
        have e4 : (W5.drewN nn).frozen? ⟨s + 1, 1, none⟩ = false := f3
        have hs6 : s + 2 ≤ (W5.drewN nn).heap.size := hs5
        clear c1 c2 c3 c4 f0 f1 f2 f3 hs5 hB0
        generalize W5.drewN nn = W6 at *
        go_wp2_with fail
        go_name_world W7 hW7
        have HW7 := Lib.hid hW7
        clear hW7
        have BXY := BD
        have hB5 : Below s w4 W7 := by
          rw [← HW7.out]
          exact (((hB1.setCell (p := ⟨s, 0, none⟩) (Nat.le_refl _) _).setCell (p := ⟨s, 1, none⟩) (Nat.le_refl _) _).setCell (p := ⟨s + 1, 0, none⟩) (Nat.le_succ _) _).setCell (p := ⟨s + 1, 1, none⟩) (Nat.le_succ _) _
        have k1 : W7.cell? ⟨s, 0, none⟩ = some (.bool sy) := by rw [← HW7.out]; go_simp
        have k2 : W7.cell? ⟨s, 1, none⟩ = some (.slice a' n' c') := by rw [← HW7.out]; go_simp
        have k4 : W7.cell? ⟨s + 1, 1, none⟩ = some (.slice a n c) := by rw [← HW7.out]; go_simp
        have k3 := k4
        have hs7 : s + 2 ≤ W7.heap.size := by rw [← HW7.out]; simp; omega
        clear HW7 d1 d2 d3 d4 e1 e2 e3 e4 hB1
        have hS := Lib.hid (show ∀ w', Below W7.heap.size W7 w' → (w'.cell? ⟨s, 0, none⟩ = some (.bool sy) ∧ w'.cell? ⟨s, 1, none⟩ = some (.slice a' n' c') ∧ w'.cell? ⟨s + 1, 1, none⟩ = some (.slice a n c)) from fun w' h =>
          ⟨(h.cell (p := ⟨s, 0, none⟩) (by show s < W7.heap.size; omega)).trans k1, (h.cell (p := ⟨s, 1, none⟩) (by show s < W7.heap.size; omega)).trans k2, (h.cell (p := ⟨s + 1, 1, none⟩) (by show s + 1 < W7.heap.size; omega)).trans k4⟩)
        have hk0 : Below W7.heap.size W7 W7.drew := (Below.refl _ _).drew
        clear k1 k2 k3 k4
        go_region_held3 (fun w' => w'.cell? ⟨s, 0, none⟩ = some (.bool sy) ∧ w'.cell? ⟨s, 1, none⟩ = some (.slice a' n' c') ∧ w'.cell? ⟨s + 1, 1, none⟩ = some (.slice a n c)) (exact hS.out _ (by assumption)) (first
          | (go_at_call 39; (with_reducible refine (minus_mg (.slice a' n' c') (.slice a n c) Y X _ (hQm _ hB5.drew) (hPm _ hB5.drew) hle.out).mono ?_); rintro e w6 ⟨u, rfl, hu, hb⟩; have HU := Lib.hid (hu.mg); obtain ⟨a6, n6, c6, z6, rfl, hr6⟩ := hu.mg; have HB := Lib.hid ((hbm _ hB5.drew).trans (hb.mono (hbm _ hB5.drew).size)); have hk6 := hk0.trans (hb.mono (show W7.heap.size ≤ W7.drew.heap.size from Nat.le_refl _)); clear hu hb hr6)
          | (go_at_call 40; (with_reducible refine (close_n sy (.slice a6 n6 c6) (Y - X) _ HU.out BXY.out (tab_below htab HB.out)).mono ?_); rintro e w7 ⟨rfl, hb7⟩; rw [HR2.out]; have HC := Lib.hid (HB.out.trans (hb7.mono HB.out.size)); have hk7 := hk6.trans (hb7.mono hk6.size); clear hb7))
        all_goals
          go_wp2
          go_ret
          exact ⟨rfl, HC.out⟩
      · have hc : 0 ≤ cmpI X Y := by
          rcases Int.lt_or_eq_of_le (Int.not_lt.1 hlt) with h | h
          · rw [cmpI_gt h]; omega
          · rw [cmpI_eq h.symm]; omega
        have hle := Lib.hid (Int.not_lt.1 hlt)
        have BXY := Lib.hid (show X - Y < LIM by have := BX.out; omega)
        have k1 : (W5.drewN nn).cell? ⟨s, 0, none⟩ = some (.bool sx) := c1
        have k2 : (W5.drewN nn).cell? ⟨s, 1, none⟩ = some (.slice a n c) := c2
        have k3 : (W5.drewN nn).cell? ⟨s + 1, 0, none⟩ = some (.bool sy) := c3
        have k4 : (W5.drewN nn).cell? ⟨s + 1, 1, none⟩ = some (.slice a' n' c') := c4
        have hs6 : s + 2 ≤ (W5.drewN nn).heap.size := hs5
        have hB5 := hB1
        clear c1 c2 c3 c4 f0 f1 f2 f3 hs5 hB0 hB1 hlt
        generalize cmpI X Y = cc at *
        generalize W5.drewN nn = W6 at *
        go_wp2_with fail
        have hS := Lib.hid (show ∀ w', Below W6.heap.size W6 w' → (w'.cell? ⟨s, 0, none⟩ = some (.bool sx) ∧ w'.cell? ⟨s, 1, none⟩ = some (.slice a n c) ∧ w'.cell? ⟨s + 1, 1, none⟩ = some (.slice a' n' c')) from fun w' h =>
          ⟨(h.cell (p := ⟨s, 0, none⟩) (by show s < W6.heap.size; omega)).trans k1, (h.cell (p := ⟨s, 1, none⟩) (by show s < W6.heap.size; omega)).trans k2, (h.cell (p := ⟨s + 1, 1, none⟩) (by show s + 1 < W6.heap.size; omega)).trans k4⟩)
        have hk0 : Below W6.heap.size W6 W6.drew := (Below.refl _ _).drew
        clear k1 k2 k3 k4
        go_region_held3 (fun w' => w'.cell? ⟨s, 0, none⟩ = some (.bool sx) ∧ w'.cell? ⟨s, 1, none⟩ = some (.slice a n c) ∧ w'.cell? ⟨s + 1, 1, none⟩ = some (.slice a' n' c')) (exact hS.out _ (by assumption)) (first
          | (go_at_call 39; (with_reducible refine (minus_mg (.slice a n c) (.slice a' n' c') X Y _ (hPm _ hB5.drew) (hQm _ hB5.drew) hle.out).mono ?_); rintro e w6 ⟨u, rfl, hu, hb⟩; have HU := Lib.hid (hu.mg); obtain ⟨a6, n6, c6, z6, rfl, hr6⟩ := hu.mg; have HB := Lib.hid ((hbm _ hB5.drew).trans (hb.mono (hbm _ hB5.drew).size)); have hk6 := hk0.trans (hb.mono (show W6.heap.size ≤ W6.drew.heap.size from Nat.le_refl _)); clear hu hb hr6)
          | (go_at_call 40; (with_reducible refine (close_n sx (.slice a6 n6 c6) (X - Y) _ HU.out BXY.out (tab_below htab HB.out)).mono ?_); rintro e w7 ⟨rfl, hb7⟩; rw [HR1.out]; have HC := Lib.hid (HB.out.trans (hb7.mono HB.out.size)); have hk7 := hk6.trans (hb7.mono hk6.size); clear hb7))
        all_goals
          go_wp2
          go_ret
          exact ⟨rfl, HC.out⟩

theorem add_n (x y : Int) (w : World) (hx : (itoa x).length ≤ 100000) (hy : (itoa y).length ≤ 100000) (htab : TabIs Tryz.prog w "internal/strconv.uint64pow10" .u64 pow10Tab) :
    Calls Tryz.prog 24 #[.string ⟨(itoa x).toArray⟩, .string ⟨(itoa y).toArray⟩] w fun e w' => e = .returned (.string ⟨(itoa (x + y)).toArray⟩) ∧ Below w.heap.size w w' := by
  by_cases hl : (itoa x).length ≤ 18 ∧ (itoa y).length ≤ 18
  · exact add_quick x y w hl.1 hl.2 htab
  · exact add_long x y w hx hy hl htab

end Go.Proofs.YtpjknkembghjcaaGreatDoor

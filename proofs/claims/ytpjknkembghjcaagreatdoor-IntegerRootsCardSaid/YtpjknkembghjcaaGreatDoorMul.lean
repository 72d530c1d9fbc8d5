/- integer.Mul. -/
import Derived.Test.YtpjknkembghjcaaGreatDoorClose
import Derived.Test.YtpjknkembghjcaaGreatDoorTimes
import Derived.Test.YtpjknkembghjcaaGreatDoorNeg
import Derived.Test.YtpjknkembghjcaaGreatDoorLong
import Derived.Deep.RegionHeld3
import Derived.Deep.DeepCutAuto
set_option linter.unusedVariables false
set_option linter.unusedSimpArgs false
namespace Go.Proofs.YtpjknkembghjcaaGreatDoor
open Go.RowKit Go.Lib Go.Proofs.YtpjknkembghjcaaGreatDoor.Dec Go.Proofs.YtpjknkembghjcaaGreatDoor.Mag Go.Proofs.YtpjknkembghjcaaGreatDoor.Chunk

theorem lim_of_len {x : Int} {m : Nat} (hm : m ≤ 1000000) (h : (itoa x).length ≤ 9 * m) : (x.natAbs : Int) < LIM :=
  lim_of_pow hm (by
    have := itoa_len_le h
    rw [Int.pow_mul, show (10 : Int) ^ 9 = 1000000000 by decide] at this
    omega)
theorem open_n (x : Int) (w : World) (hs : (itoa x).length ≤ 1000000) :
    Calls Tryz.prog 36 #[.string ⟨(itoa x).toArray⟩] w fun e w' => ∃ p, e = .returned (.agg #[.bool (decide (x < 0)), p]) ∧ MgN w.heap.size w' p (x.natAbs : Int) ∧ Below w.heap.size w w' := by
  have hl : (decDigits x.natAbs).length ≤ (itoa x).length := by
    rw [itoa_signed, signed]; split <;> simp
  have h := open_mg (decide (x < 0)) (decDigits x.natAbs) w (by omega) (dec_all _)
  rw [← itoa_signed, dval_dec] at h
  exact h
theorem natAbs_mul_int (x y : Int) : ((x * y).natAbs : Int) = (x.natAbs : Int) * (y.natAbs : Int) := by
  rw [Int.natAbs_mul, Int.natCast_mul]
theorem mul_sign (x y : Int) : (if (decide (x < 0) != decide (y < 0)) then -((x.natAbs : Int) * (y.natAbs : Int)) else (x.natAbs : Int) * (y.natAbs : Int)) = x * y := by
  by_cases hx : x < 0 <;> by_cases hy : y < 0
  · rw [show (x.natAbs : Int) = -x by omega, show (y.natAbs : Int) = -y by omega]; simp [hx, hy, Int.neg_mul_neg]
  · rw [show (x.natAbs : Int) = -x by omega, show (y.natAbs : Int) = y by omega]; simp [hx, hy, Int.neg_mul]
  · rw [show (x.natAbs : Int) = x by omega, show (y.natAbs : Int) = -y by omega]; simp [hx, hy, Int.mul_neg]
  · rw [show (x.natAbs : Int) = x by omega, show (y.natAbs : Int) = y by omega]; simp [hx, hy]

theorem pow_mono_base (k : Nat) : (10 : Int) ^ k ≤ (1000000000 : Int) ^ k := by
  induction k with
  | zero => simp
  | succ k ih =>
    rw [Int.pow_succ, Int.pow_succ]
    exact Int.mul_le_mul ih (by decide) (by decide) (Int.le_of_lt (Int.pow_pos (by decide)))

set_option maxHeartbeats 1000000 in
set_option maxRecDepth 100000 in
theorem mul_quick (x y : Int) (w : World) (hx : (itoa x).length ≤ 9) (hy : (itoa y).length ≤ 9) (htab : TabIs Tryz.prog w "internal/strconv.uint64pow10" .u64 pow10Tab) :
    Calls Tryz.prog 34 #[.string ⟨(itoa x).toArray⟩, .string ⟨(itoa y).toArray⟩] w fun e w' => e = .returned (.string ⟨(itoa (x * y)).toArray⟩) ∧ Below w.heap.size w w' := by
  have bx := itoa_len_le hx
  have bY := itoa_len_le hy
  have hb : -1000000000000000000 < x * y ∧ x * y < 1000000000000000000 := by
    have h1 : x.natAbs * y.natAbs < 10 ^ 9 * 10 ^ 9 := Nat.mul_lt_mul'' (by omega) (by omega)
    rw [← Int.natAbs_mul] at h1
    omega
  obtain ⟨hb1, hb2⟩ := hb
  clear bx bY
  have hA := Lib.hid (quick_yes x 9 (by decide) w hx)
  go_enter Tryz.func34, Tryz.ntmps34
  go_wp2_with (first
    | (go_at_call 49; refine hA.out.mono ?_; rintro e w1 ⟨rfl, h1⟩; refine Hid.out ?_))
  refine Lib.hid ?_
  have hB := Lib.hid (quick_yes y 9 (by decide) w1 hy)
  go_wp2_with (first
    | (go_at_call 49; refine hB.out.mono ?_; rintro e w2 ⟨rfl, h2⟩; refine Hid.out ?_))
  refine Lib.hid ?_
  have h3 := h1.trans (h2.mono h1.size)
  have hC := Lib.hid (of_n (x * y) (by omega) (by omega) w2 (tab_below htab h3))
  clear hA hB
  go_wp2_with (first
    | (go_at_call 50; refine hC.out.mono ?_; rintro e w3 ⟨rfl, h4⟩))
  go_ret
  exact ⟨rfl, h3.trans (h4.mono h3.size)⟩

set_option maxHeartbeats 2000000 in
set_option maxRecDepth 100000 in
theorem mul_long (x y : Int) (w : World) (hx : (itoa x).length ≤ 100000) (hy : (itoa y).length ≤ 100000) (hl : ¬ ((itoa x).length ≤ 9 ∧ (itoa y).length ≤ 9)) (htab : TabIs Tryz.prog w "internal/strconv.uint64pow10" .u64 pow10Tab) :
    Calls Tryz.prog 34 #[.string ⟨(itoa x).toArray⟩, .string ⟨(itoa y).toArray⟩] w fun e w' => e = .returned (.string ⟨(itoa (x * y)).toArray⟩) ∧ Below w.heap.size w w' := by
  have HR := Lib.hid (mul_sign x y)
  go_enter Tryz.func34, Tryz.ntmps34
  by_cases h9 : (itoa x).length ≤ 9
  have hA := Lib.hid (quick_yes x 9 (by decide) w h9)
  go_wp2_with (first
    | (go_at_call 49; refine hA.out.mono ?_; rintro e W0 ⟨rfl, h0⟩; refine Hid.out ?_))
  refine Lib.hid ?_
  have hB := Lib.hid (quick_no y 9 (by decide) W0 (by omega))
  go_wp2_with (first
    | (go_at_call 49; refine hB.out.mono ?_; rintro e w2 ⟨rfl, hw2⟩; obtain rfl : W0 = w2 := hw2.symm; refine Hid.out ?_))
  refine Lib.hid ?_
  clear hA hB
  rotate_left
  have hA := Lib.hid (quick_no x 9 (by decide) w (by omega))
  go_wp2_with (first
    | (go_at_call 49; refine hA.out.mono ?_; rintro e w2 ⟨rfl, hw2⟩; obtain rfl : w = w2 := hw2.symm; refine Hid.out ?_))
  refine Lib.hid ?_
  clear hA
  have h0 : Below w.heap.size w w := Below.refl _ _
  all_goals
    go_wp2_with (go_at_call 36; refine (open_n x _ (by omega)).mono ?_; rintro e w3 ⟨p, rfl, hp, hb⟩; have h3 := h0.trans (hb.mono h0.size); refine Hid.out ?_)
    refine Lib.hid ?_
    go_wp2_with (go_at_call 36; refine (open_n y _ (by omega)).mono ?_; rintro e w4 ⟨q, rfl, hq, hc⟩; have h4 := h3.trans (hc.mono h3.size); refine Hid.out ?_)
    refine Lib.hid ?_
    have HP := Lib.hid (hp.mg.below (Nat.le_refl _) hc)
    have HQ := Lib.hid hq.mg
    clear hp hq hb hc h3 h0
    obtain ⟨a, n, c, zp, rfl, hrest⟩ := HP.out
    obtain ⟨a', n', c', zq, rfl, hrest'⟩ := HQ.out
    clear hrest hrest'
    go_wp2_with fail
    clear hw2
    generalize hsx : decide (x < 0) = sx at *
    generalize hsy : decide (y < 0) = sy at *
    have BX := Lib.hid (lim_of_len (m := 100000) (by decide) (show (itoa x).length ≤ 9 * 100000 by omega))
    have BY := Lib.hid (lim_of_len (m := 100000) (by decide) (show (itoa y).length ≤ 9 * 100000 by omega))
    have BXY := Lib.hid (show (x.natAbs : Int) * (y.natAbs : Int) < LIM by
      have h1 := itoa_len_le (k := 100000) hx
      have h2 := itoa_len_le (k := 100000) hy
      refine lim_of_pow (k := 200000) (by decide) ?_
      have h3 : (x.natAbs : Int) * (y.natAbs : Int) < (10 : Int) ^ 100000 * (10 : Int) ^ 100000 := mul_lt_both (by omega) (by omega) (by omega) (by omega)
      have h4 : (10 : Int) ^ 100000 * (10 : Int) ^ 100000 ≤ (1000000000 : Int) ^ 200000 := by
        rw [← Int.pow_add]
        show (10 : Int) ^ (100000 + 100000) ≤ _
        exact pow_mono_base _
      omega)
    have HR : Hid ((if (!(sx == sy)) = true then -((x.natAbs : Int) * (y.natAbs : Int)) else (x.natAbs : Int) * (y.natAbs : Int)) = x * y) := HR
    generalize (x.natAbs : Int) = X at *
    generalize (y.natAbs : Int) = Y at *
    generalize hW5 : (w4.alloc (.cells #[.bool sx, .slice a n c] 51)).alloc (.cells #[.bool sy, .slice a' n' c'] 51) = W5
    have h5 : Below w4.heap.size w4 W5 := by rw [← hW5]; exact ((Below.refl _ _).alloc (Nat.le_refl _) _).alloc (by simp) _
    have h6 := h4.trans (h5.mono h4.size)
    have HP5 := Lib.hid ((HP.out.below (Nat.le_refl _) h5).drew)
    have HQ5 := Lib.hid ((HQ.out.below (Nat.le_refl _) h5).drew)
    have c1 : W5.cell? ⟨w4.heap.size, 0, none⟩ = some (.bool sx) := by rw [← hW5]; simp
    have c2 : W5.cell? ⟨w4.heap.size, 1, none⟩ = some (.slice a n c) := by rw [← hW5]; simp
    have c3 : W5.cell? ⟨w4.heap.size + 1, 0, none⟩ = some (.bool sy) := by rw [← hW5]; simp
    have c4 : W5.cell? ⟨w4.heap.size + 1, 1, none⟩ = some (.slice a' n' c') := by rw [← hW5]; simp
    have hs5 : w4.heap.size + 2 ≤ W5.heap.size := by rw [← hW5]; simp
    clear HP HQ h4 h5 hW5
    generalize w4.heap.size = s at *
    have hS := Lib.hid (show ∀ w', Below W5.heap.size W5 w' → (w'.cell? ⟨s, 0, none⟩ = some (.bool sx) ∧ w'.cell? ⟨s, 1, none⟩ = some (.slice a n c) ∧ w'.cell? ⟨s + 1, 0, none⟩ = some (.bool sy) ∧ w'.cell? ⟨s + 1, 1, none⟩ = some (.slice a' n' c')) from fun w' h =>
      ⟨(h.cell (p := ⟨s, 0, none⟩) (by show s < W5.heap.size; omega)).trans c1, (h.cell (p := ⟨s, 1, none⟩) (by show s < W5.heap.size; omega)).trans c2, (h.cell (p := ⟨s + 1, 0, none⟩) (by show s + 1 < W5.heap.size; omega)).trans c3, (h.cell (p := ⟨s + 1, 1, none⟩) (by show s + 1 < W5.heap.size; omega)).trans c4⟩)
    have hk0 : Below W5.heap.size W5 W5.drew := (Below.refl _ _).drew
    clear c1 c2 c3 c4
    go_region_held3 (fun w' => w'.cell? ⟨s, 0, none⟩ = some (.bool sx) ∧ w'.cell? ⟨s, 1, none⟩ = some (.slice a n c) ∧ w'.cell? ⟨s + 1, 0, none⟩ = some (.bool sy) ∧ w'.cell? ⟨s + 1, 1, none⟩ = some (.slice a' n' c')) (exact hS.out _ (by assumption)) (first
      | (go_at_call 54; (with_reducible refine (times_mg (.slice a n c) (.slice a' n' c') X Y _ HP5.out HQ5.out BX.out BY.out).mono ?_); rintro e w6 ⟨u, rfl, hu, hb⟩; have HU := Lib.hid hu.mg; obtain ⟨a6, n6, c6, z6, rfl, hr6⟩ := hu.mg; have HB := Lib.hid (h6.drew.trans (hb.mono (show w.heap.size ≤ W5.drew.heap.size from h6.size))); have hk6 := hk0.trans (hb.mono (show W5.heap.size ≤ W5.drew.heap.size from Nat.le_refl _)); clear hu hb hr6)
      | (go_at_call 40; (with_reducible refine (close_n (!(sx == sy)) (.slice a6 n6 c6) (X * Y) _ HU.out BXY.out (tab_below htab HB.out)).mono ?_); rintro e w7 ⟨rfl, hb7⟩; rw [HR.out]; have HC := Lib.hid (HB.out.trans (hb7.mono HB.out.size)); have hk7 := hk6.trans (hb7.mono hk6.size); clear hb7))
    all_goals
      go_wp2
      go_ret
      exact ⟨rfl, HC.out⟩

theorem mul_n (x y : Int) (w : World) (hx : (itoa x).length ≤ 100000) (hy : (itoa y).length ≤ 100000) (htab : TabIs Tryz.prog w "internal/strconv.uint64pow10" .u64 pow10Tab) :
    Calls Tryz.prog 34 #[.string ⟨(itoa x).toArray⟩, .string ⟨(itoa y).toArray⟩] w fun e w' => e = .returned (.string ⟨(itoa (x * y)).toArray⟩) ∧ Below w.heap.size w w' := by
  by_cases hl : (itoa x).length ≤ 9 ∧ (itoa y).length ≤ 9
  · exact mul_quick x y w hl.1 hl.2 htab
  · exact mul_long x y w hx hy hl htab

end Go.Proofs.YtpjknkembghjcaaGreatDoor

/- Plain facts about whole numbers: Newton's steps for the root, Euclid's division, the greatest common divisor. No program in sight. -/
import Derived.Test.YtpjknkembghjcaaGreatDoorDec
set_option linter.unusedVariables false
namespace Go.Proofs.YtpjknkembghjcaaGreatDoor.Num

theorem sq_nonneg (d : Int) : 0 ≤ d * d := by
  rcases Int.le_total 0 d with h | h
  · exact Int.mul_nonneg h h
  · exact Int.mul_nonneg_of_nonpos_of_nonpos h h
theorem sq_mono {a b : Int} (h0 : 0 ≤ a) (h : a ≤ b) : a * a ≤ b * b := Int.mul_le_mul h h h0 (by omega)

theorem newton_low {n x : Int} (hn : 0 ≤ n) (hx : 0 < x) : n < ((x + n / x) / 2 + 1) * ((x + n / x) / 2 + 1) := by
  have h1 : n < (n / x + 1) * x := Int.lt_ediv_add_one_mul_self n hx
  have hq : 0 ≤ n / x := Int.ediv_nonneg hn (by omega)
  generalize n / x = q at *
  have h2 : x + q + 1 ≤ 2 * ((x + q) / 2) + 2 := by omega
  generalize (x + q) / 2 = y at *
  have h3 := sq_nonneg (x - (q + 1))
  have h4 := sq_mono (show 0 ≤ x + q + 1 by omega) h2
  have e1 : (x - (q + 1)) * (x - (q + 1)) = (x + q + 1) * (x + q + 1) - 4 * ((q + 1) * x) := by grind
  have e2 : (2 * y + 2) * (2 * y + 2) = 4 * ((y + 1) * (y + 1)) := by grind
  omega
theorem newton_stop {n x : Int} (hn : 0 ≤ n) (hx : 0 < x) (h : x ≤ (x + n / x) / 2) : x * x ≤ n := by
  have h1 : n / x * x ≤ n := Int.ediv_mul_le n (by omega)
  have h2 : x ≤ n / x := by omega
  have h3 : x * x ≤ n / x * x := Int.mul_le_mul_of_nonneg_right h2 (by omega)
  omega
theorem newton_pos {n x : Int} (hn : 1 ≤ n) (hx : 1 ≤ x) : 1 ≤ (x + n / x) / 2 := by
  rcases Int.lt_or_eq_of_le hx with h | h
  · have : 0 ≤ n / x := Int.ediv_nonneg (by omega) (by omega)
    omega
  · subst h
    rw [Int.ediv_one]; omega
theorem root_unique {n r s : Int} (hr0 : 0 ≤ r) (hs0 : 0 ≤ s) (hr : r * r ≤ n) (hr1 : n < (r + 1) * (r + 1)) (hs : s * s ≤ n) (hs1 : n < (s + 1) * (s + 1)) : r = s := by
  rcases Int.lt_trichotomy r s with h | h | h
  · have := sq_mono (show 0 ≤ r + 1 by omega) (show r + 1 ≤ s by omega); omega
  · exact h
  · have := sq_mono (show 0 ≤ s + 1 by omega) (show s + 1 ≤ r by omega); omega

theorem euclid {a b q r : Int} (hb : b ≠ 0) (h : b * q + r = a) (h0 : 0 ≤ r) (h1 : r < b.natAbs) : q = a / b ∧ r = a % b := by
  rcases Int.lt_or_gt_of_ne hb with hn | hp
  · have h2 := (Int.ediv_emod_unique (a := a) (b := -b) (r := r) (q := -q) (by omega)).2 ⟨by rw [Int.neg_mul_neg]; omega, h0, by omega⟩
    rw [Int.ediv_neg, Int.emod_neg] at h2
    exact ⟨by omega, h2.2.symm⟩
  · have h2 := (Int.ediv_emod_unique (a := a) (b := b) (r := r) (q := q) (by omega)).2 ⟨by omega, h0, by omega⟩
    exact ⟨h2.1.symm, h2.2.symm⟩

/-- What DivMod hands back out of the magnitudes' quotient and remainder. -/
theorem divmod_mag {a b : Int} (hb : b ≠ 0) {d m : Int} (hd : d = (a.natAbs : Int) / (b.natAbs : Int)) (hm : m = (a.natAbs : Int) % (b.natAbs : Int)) :
    (a < 0 ∧ 0 < m → (if (decide (a < 0) != decide (b < 0)) then -(d + 1) else d + 1) = a / b ∧ (b.natAbs : Int) - m = a % b) ∧
    (¬ (a < 0 ∧ 0 < m) → (if (decide (a < 0) != decide (b < 0)) then -d else d) = a / b ∧ m = a % b) := by
  have hb0 : 0 < (b.natAbs : Int) := by omega
  have e := Int.mul_ediv_add_emod (a.natAbs : Int) (b.natAbs : Int)
  have m0 := Int.emod_nonneg (a.natAbs : Int) (show (b.natAbs : Int) ≠ 0 by omega)
  have m1 := Int.emod_lt_of_pos (a.natAbs : Int) hb0
  rw [← hd, ← hm] at e
  rw [← hm] at m0 m1
  clear hd hm
  by_cases ha : a < 0 <;> by_cases hb1 : b < 0
  all_goals
    obtain ⟨A, hA⟩ : ∃ A : Int, (a.natAbs : Int) = A := ⟨_, rfl⟩
    obtain ⟨B, hB⟩ : ∃ B : Int, (b.natAbs : Int) = B := ⟨_, rfl⟩
    rw [hA, hB] at e
    rw [hB] at m1 hb0 ⊢
    simp only [ha, hb1]
    constructor
  · rintro ⟨-, h⟩
    have ea : a = -A := by omega
    have eb : b = -B := by omega
    refine euclid hb ?_ (by omega) (by omega)
    simp
    rw [ea, eb, ← e]
    grind
  · intro h
    have hm0 : m = 0 := by
      have h9 : ¬ 0 < m := fun h0 => h ⟨trivial, h0⟩
      omega
    have ea : a = -A := by omega
    have eb : b = -B := by omega
    refine euclid hb ?_ (by omega) (by omega)
    simp
    rw [ea, eb, ← e, hm0]
    grind
  · rintro ⟨-, h⟩
    have ea : a = -A := by omega
    have eb : b = B := by omega
    refine euclid hb ?_ (by omega) (by omega)
    simp
    rw [ea, eb, ← e]
    grind
  · intro h
    have hm0 : m = 0 := by
      have h9 : ¬ 0 < m := fun h0 => h ⟨trivial, h0⟩
      omega
    have ea : a = -A := by omega
    have eb : b = B := by omega
    refine euclid hb ?_ (by omega) (by omega)
    simp
    rw [ea, eb, ← e, hm0]
    grind
  · rintro ⟨h, -⟩
    exact absurd h (by simp)
  · intro h
    have ea : a = A := by omega
    have eb : b = -B := by omega
    refine euclid hb ?_ (by omega) (by omega)
    simp
    rw [ea, eb, ← e]
    grind
  · rintro ⟨h, -⟩
    exact absurd h (by simp)
  · intro h
    have ea : a = A := by omega
    have eb : b = B := by omega
    refine euclid hb ?_ (by omega) (by omega)
    simp
    rw [ea, eb, ← e]

/-- The steps of Euclid, with Go's remainder. -/
theorem gcd_step (x y : Int) : Int.gcd y (x.tmod y) = Int.gcd x y := by
  rw [Int.gcd, Int.natAbs_tmod, Int.gcd, Nat.gcd_comm x.natAbs y.natAbs, Nat.gcd_rec y.natAbs x.natAbs, Nat.gcd_comm]
theorem gcd_end (x : Int) : (Int.gcd x 0 : Int) = max x (-x) := by
  rw [Int.gcd_zero_right]; omega

end Go.Proofs.YtpjknkembghjcaaGreatDoor.Num

/- The long division, as numbers: the digit that is guessed is not too small; what all rounds together give. -/
import Derived.Test.YtpjknkembghjcaaGreatDoorMag
set_option linter.unusedVariables false
namespace Go.Proofs.YtpjknkembghjcaaGreatDoor.Mag

theorem mul_lt_both {a b c d : Int} (h1 : a < b) (h2 : c < d) (h3 : 0 ≤ a) (h4 : 0 ≤ c) : a * c < b * d := by
  have h : a * c ≤ (b - 1) * (d - 1) := Int.mul_le_mul (by omega) (by omega) h4 (by omega)
  have e : (b - 1) * (d - 1) = b * d - b - d + 1 := by grind
  omega
/-- The guess is not too small. -/
theorem guess_le {B Y t : Int} {rs : List Int} {k : Nat} (hB : 0 < B) (hp : Pcs B rs) (hk : k ≤ rs.length) (ht : 0 < t) (hY : t * B ^ k ≤ Y) : pv B rs / Y ≤ pv B (rs.drop k) / t := by
  have hP := pow_pos hB k
  have hY0 : 0 < Y := Int.lt_of_lt_of_le (Int.mul_pos ht hP) hY
  have hR := pv_split B rs k hk
  have h1 := pv_lt hB (hp.take k)
  rw [List.length_take, Nat.min_eq_left hk] at h1
  have h0 := pv_nonneg (Int.le_of_lt hB) hp
  have hd0 := pv_nonneg (Int.le_of_lt hB) (hp.drop k)
  rw [Int.le_ediv_iff_mul_le ht]
  generalize pv B (rs.drop k) = d at *
  generalize pv B rs = R at *
  have hq0 : 0 ≤ R / Y := Int.ediv_nonneg h0 (Int.le_of_lt hY0)
  have hq1 : R / Y * Y ≤ R := Int.ediv_mul_le R (by omega)
  generalize R / Y = q at *
  have h2 : q * (t * B ^ k) ≤ q * Y := Int.mul_le_mul_of_nonneg_left hY hq0
  have h3 : (q * t) * B ^ k < (d + 1) * B ^ k := by
    have e1 : (q * t) * B ^ k = q * (t * B ^ k) := by rw [Int.mul_assoc]
    have e2 : (d + 1) * B ^ k = B ^ k * d + B ^ k := by rw [Int.add_mul, Int.mul_comm d]; omega
    rw [e1, e2]
    omega
  have h4 : q * t < d + 1 := Int.lt_of_mul_lt_mul_right h3 (Int.le_of_lt hP)
  omega
/-- One piece: what stands from its place on. -/
theorem drop_last (B : Int) {rs : List Int} (h : 0 < rs.length) : pv B (rs.drop (rs.length - 1)) = rs.getD (rs.length - 1) 0 := by
  rw [pv_drop_pred B rs _ (by omega), show rs.length - 1 + 1 = rs.length by omega, List.drop_length]; simp [pv]
theorem drop_last2 (B : Int) {rs : List Int} (h : 1 < rs.length) : pv B (rs.drop (rs.length - 2)) = rs.getD (rs.length - 1) 0 * B + rs.getD (rs.length - 2) 0 := by
  rw [pv_drop_pred B rs _ (by omega), show rs.length - 2 + 1 = rs.length - 1 by omega, drop_last B (by omega), Int.mul_comm]; omega
theorem top_le {B : Int} {ys : List Int} (hB : 0 < B) (hp : Pcs B ys) (h : 0 < ys.length) : ys.getD (ys.length - 1) 0 * B ^ (ys.length - 1) ≤ pv B ys := by
  have e := pv_split B ys (ys.length - 1) (by omega)
  rw [drop_last B h] at e
  have := pv_nonneg (Int.le_of_lt hB) (hp.take (ys.length - 1))
  rw [e, Int.mul_comm]; omega
/-- The digit is found. -/
theorem digit_eq {R Y d : Int} (hY : 0 < Y) (h1 : R / Y ≤ d) (h2 : d * Y ≤ R) : d = R / Y := by
  have := (Int.le_ediv_iff_mul_le hY).2 h2
  omega
/-- One round of the division. -/
theorem long_step {B Y R d : Int} {as qs : List Int} {k : Nat} (hk : k < as.length) (hq : k < qs.length) (h : pv B (qs.drop (k + 1)) * Y + R = pv B (as.drop (k + 1))) (hd : d = (as.getD k 0 + B * R) / Y) :
    pv B ((qs.set k d).drop k) * Y + (as.getD k 0 + B * R - d * Y) = pv B (as.drop k) := by
  rw [pv_drop_pred B as k hk, ← h, pv_drop_pred B _ k (by simpa using hq), List.drop_set_of_lt (by omega)]
  have e : (qs.set k d).getD k 0 = d := by
    rw [List.getD_eq_getElem?_getD, List.getElem?_set_self hq]; rfl
  rw [e]
  generalize pv B (List.drop (k + 1) qs) = P at *
  grind
/-- .. a round without a digit. -/
theorem long_skip {B Y R : Int} {as qs : List Int} {k : Nat} (hk : k < as.length) (hq : k < qs.length) (h : pv B (qs.drop (k + 1)) * Y + R = pv B (as.drop (k + 1))) (hz : qs.getD k 0 = 0) :
    pv B (qs.drop k) * Y + (as.getD k 0 + B * R) = pv B (as.drop k) := by
  rw [pv_drop_pred B as k hk, ← h, pv_drop_pred B _ k hq, hz]
  generalize pv B (List.drop (k + 1) qs) = P at *
  grind
/-- Behind the scaling: quotient and remainder of what was handed over. -/
theorem long_end {x y f Q R : Int} (hf : 0 < f) (hy : 0 < y) (h : Q * (y * f) + R = x * f) (h0 : 0 ≤ R) (h1 : R < y * f) : Q = x / y ∧ R / f = x % y := by
  have e : R = (x - Q * y) * f := by
    have : (x - Q * y) * f = x * f - Q * (y * f) := by rw [Int.sub_mul, Int.mul_assoc]
    omega
  have r0 : 0 ≤ x - Q * y := by
    rcases Int.lt_or_le (x - Q * y) 0 with h2 | h2
    · have : (x - Q * y) * f < 0 := Int.mul_neg_of_neg_of_pos h2 hf
      omega
    · exact h2
  have r1 : x - Q * y < y := by
    rw [e] at h1
    exact Int.lt_of_mul_lt_mul_right h1 (Int.le_of_lt hf)
  have q : Q = x / y := by
    have e2 : x = (x - Q * y) + Q * y := by omega
    rw [e2, Int.add_mul_ediv_right _ _ (by omega), Int.ediv_eq_zero_of_lt r0 r1]; omega
  refine ⟨q, ?_⟩
  rw [e, Int.mul_ediv_cancel _ (by omega)]
  have e2 : x = (x - Q * y) + Q * y := by omega
  have e3 : x % y = x - Q * y := by
    conv => lhs; rw [e2]
    rw [Int.add_mul_emod_self_right, Int.emod_eq_of_lt r0 r1]
  omega
end Go.Proofs.YtpjknkembghjcaaGreatDoor.Mag

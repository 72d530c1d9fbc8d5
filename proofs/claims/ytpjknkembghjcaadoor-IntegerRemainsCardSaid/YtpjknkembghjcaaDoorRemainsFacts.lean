/- Plain facts for IntegerRemains. -/
import Derived.Test.YtpjknkembghjcaaDoorDivAll
import Derived.Test.YtpjknkembghjcaaDoorRoot
import Derived.Test.YtpjknkembghjcaaDoorSub
set_option linter.unusedVariables false
namespace Go.Proofs.YtpjknkembghjcaaDoor
open Go.RowKit Go.Lib Go.Proofs.YtpjknkembghjcaaDoor.Dec Go.Proofs.YtpjknkembghjcaaDoor.Mag Go.Proofs.YtpjknkembghjcaaDoor.Chunk

theorem itoa_one : itoa 1 = [49] := by
  rw [Dec.itoa_nonneg (by decide)]
  have h2 := dec_dval (c := 49) (l := []) (AllDig.cons (by decide) AllDig.nil) (Or.inr (by decide))
  have h3 : dval [49] = 1 := by rw [dval_cons, dval_nil]; rfl
  rw [h3] at h2
  rw [show Int.natAbs 1 = 1 from rfl, h2]
theorem len_of_natAbs {x y : Int} {k : Nat} (hk : 1 ≤ k) (hx : (itoa x).length ≤ k) (h : y.natAbs ≤ x.natAbs) : (itoa y).length ≤ k + 1 :=
  itoa_len_of hk (Nat.lt_of_le_of_lt h (natAbs_of_len hx))
theorem root_facts {a : Int} {k : Nat} (hk : 1 ≤ k) (ha : 0 ≤ a) (la : (itoa a).length ≤ k) : ∃ r : Int, 0 ≤ r ∧ r * r ≤ a ∧ a < (r + 1) * (r + 1) ∧ (itoa r).length ≤ k + 1 := by
  obtain ⟨r, h1, h2⟩ := root_exists a.toNat
  have e : ((r * r : Nat) : Int) = (r : Int) * (r : Int) := by simp
  have e2 : (((r + 1) * (r + 1) : Nat) : Int) = ((r : Int) + 1) * ((r : Int) + 1) := by simp
  refine ⟨r, by omega, by omega, by omega, len_of_natAbs hk la ?_⟩
  have : r ≤ r * r := by
    rcases Nat.eq_zero_or_pos r with h | h
    · rw [h]; decide
    · exact Nat.le_mul_of_pos_left r h
  omega
theorem lim_abs {a : Int} {k K : Nat} (la : (itoa a).length ≤ k) (hk : k ≤ K) : (a.natAbs : Int) < (1000000000 : Int) ^ K := by
  have h1 := natAbs_of_len la
  have h2 := pow_mono_base K
  have h3 : (10 : Int) ^ k ≤ (10 : Int) ^ K := pow_mono (by decide) hk
  have h4 : ((10 ^ k : Nat) : Int) = (10 : Int) ^ k := by simp
  omega
theorem lim_nonneg {a : Int} {k K : Nat} (ha : 0 ≤ a) (la : (itoa a).length ≤ k) (hk : k ≤ K) : a < (1000000000 : Int) ^ K := by
  have := lim_abs la hk
  rwa [Int.natAbs_of_nonneg ha] at this
theorem sign_nonneg {a : Int} (h : 0 ≤ a) : 0 ≤ a.sign := by
  rcases Int.lt_or_eq_of_le h with h | h
  · rw [Int.sign_eq_one_of_pos h]; decide
  · rw [← h]; decide
theorem cmp_le {a b : Int} (h : a ≤ b) : ¬ 0 < cmpI a b := by
  rcases Int.lt_or_eq_of_le h with h | h
  · rw [cmpI_lt h]; decide
  · rw [cmpI_eq h]; decide
theorem div_lens {a b : Int} {k j : Nat} (hk : 1 ≤ k) (hj : 1 ≤ j) (hb : b ≠ 0) (la : (itoa a).length ≤ k) (lb : (itoa b).length ≤ j) : (itoa (a / b)).length ≤ k + 2 ∧ (itoa (a % b)).length ≤ j + 1 := by
  constructor
  · refine itoa_len_of (k := k + 1) (by omega) ?_
    have h1 := natAbs_of_len la
    have h2 : (a / b).natAbs ≤ a.natAbs := by first | exact Int.natAbs_div_le_natAbs a b | exact Int.natAbs_ediv_le_natAbs a b
    rw [Nat.pow_succ]; omega
  · refine len_of_natAbs hj lb ?_
    have h1 := Int.emod_nonneg a hb
    have h2 := Int.emod_lt a hb
    omega
end Go.Proofs.YtpjknkembghjcaaDoor

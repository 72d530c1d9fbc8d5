/- The reference's Power. -/
import Derived.Test.YtpmkhichoepdnaaGreatDoorRefMul
set_option linter.unusedVariables false
set_option linter.unusedSimpArgs false
namespace Go.Proofs.YtpmkhichoepdnaaGreatDoor
open Go.RowKit Go.Lib Go.Proofs.YtpmkhichoepdnaaGreatDoor.Dec Go.Proofs.YtpmkhichoepdnaaGreatDoor.Mag Go.Proofs.YtpmkhichoepdnaaGreatDoor.Chunk

theorem pow_len {x : Int} {k : Nat} (hk : 1 ≤ k) (hx : (itoa x).length ≤ k) (n : Nat) (hn : n ≤ 25) : (itoa (x ^ n)).length ≤ 25 * k + 2 := by
  refine Nat.le_trans (itoa_len_of (k := 25 * k + 1) (by omega) ?_) (by omega)
  rw [Int.natAbs_pow]
  have h1 : x.natAbs ^ n ≤ (10 ^ k) ^ n := Nat.pow_le_pow_left (Nat.le_of_lt (natAbs_of_len hx)) n
  rw [← Nat.pow_mul] at h1
  have h2 : 10 ^ (k * n) ≤ 10 ^ (25 * k) := Nat.pow_le_pow_right (by decide) (by rw [Nat.mul_comm]; exact Nat.mul_le_mul_right _ hn)
  have h3 : 10 ^ (25 * k) < 10 ^ (25 * k + 1) := Nat.pow_lt_pow_right (by decide) (Nat.lt_succ_self _)
  omega

set_option maxHeartbeats 1000000 in
set_option maxRecDepth 100000 in
theorem ref_power_n (x : Int) (n : Nat) (w : World) (hx : (itoa x).length ≤ 100) (hn : n ≤ 25) (htab : TabIs Tryz.prog w "internal/strconv.uint64pow10" .u64 pow10Tab) :
    Calls Tryz.prog 23 #[.string ⟨(itoa x).toArray⟩, .int .i64 (n : Int)] w fun e w' => e = .returned (.string ⟨(itoa (x ^ n)).toArray⟩) ∧ Below w.heap.size w w' := by
  have h1 : (⟨#[49]⟩ : ByteArray) = ⟨(itoa 1).toArray⟩ := by
    rw [Dec.itoa_nonneg (by decide)]
    have h2 := dec_dval (c := 49) (l := []) (AllDig.cons (by decide) AllDig.nil) (Or.inr (by decide))
    have h3 : dval [49] = 1 := by rw [dval_cons, dval_nil]; rfl
    rw [h3] at h2
    rw [show Int.natAbs 1 = 1 from rfl, h2]
  have H1 := Lib.hid h1
  clear h1
  go_enter Tryz.func23, Tryz.ntmps23
  go_wp2_with fail
  go_loopw [5, 6] (fun ov iv wr => ∃ k : Nat, iv = .int .i64 k ∧ k ≤ n ∧ ov = .string ⟨(itoa (x ^ k)).toArray⟩ ∧ Below w.heap.size w wr) (fun _ i _ => n - (intOf i).toNat)
  case atStart => exact ⟨0, rfl, Nat.zero_le _, by rw [Int.pow_zero, ← H1.out], Below.refl _ _⟩
  case round =>
    obtain ⟨k, rfl, hk, rfl, hb⟩ := hrel
    obtain ⟨wo, rfl⟩ : ∃ wo : World, wo = wr := ⟨_, rfl⟩
    by_cases hlt : k < n
    · have hM := Lib.hid (fun w htab => ref_mul_n (x ^ k) x w (Nat.le_trans (pow_len (by decide) hx k (by omega)) (by decide)) (by omega) htab)
      rw [← Int.pow_succ] at hM
      generalize x ^ k = y at *
      go_wp2_with (go_at_call 13; refine (hM.out _ (tab_below htab hb)).mono ?_; rintro e w1 ⟨rfl, h1⟩)
      go_roundw
      case rel => exact ⟨k + 1, rfl, by omega, rfl, hb.trans (h1.mono hb.size)⟩
      case measure => simp [intOf]; omega
    · obtain rfl : k = n := by omega
      go_wp2_with fail
      go_ret
      exact ⟨rfl, hb⟩

set_option maxHeartbeats 1000000 in
theorem ref_abs_p (x : Int) (w : World) (hl : (itoa x).length ≤ 1000000) :
    Calls Tryz.prog 22 #[.string ⟨(itoa x).toArray⟩] w fun e w' => e = .returned (.string ⟨(decDigits x.natAbs).toArray⟩) ∧ Below w.heap.size w w' := by
  have hS := Lib.hid (fun w => ref_split_n x w (by omega))
  go_enter Tryz.func22, Tryz.ntmps22
  go_wp2_with (go_at_call 42; refine (hS.out _).mono ?_; rintro e w1 ⟨rfl, h1⟩; have b1 := below_dn h1; clear h1)
  go_ret
  exact ⟨rfl, b1⟩

end Go.Proofs.YtpmkhichoepdnaaGreatDoor

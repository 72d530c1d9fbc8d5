/- integer.Sub; the lengths of sums and products. -/
import Derived.Test.YtpjknkembghjcaaGreatDoorAdd
set_option linter.unusedVariables false
set_option linter.unusedSimpArgs false
namespace Go.Proofs.YtpjknkembghjcaaGreatDoor
open Go.RowKit Go.Lib Go.Proofs.YtpjknkembghjcaaGreatDoor.Dec Go.Proofs.YtpjknkembghjcaaGreatDoor.Mag Go.Proofs.YtpjknkembghjcaaGreatDoor.Chunk

theorem itoa_len_of {x : Int} {k : Nat} (hk : 1 ≤ k) (h : x.natAbs < 10 ^ k) : (itoa x).length ≤ k + 1 := by
  have := dec_len_le hk h
  rw [itoa_signed, signed]
  split
  · rw [List.length_cons]; omega
  · omega
theorem natAbs_of_len {x : Int} {k : Nat} (h : (itoa x).length ≤ k) : x.natAbs < 10 ^ k := by
  have h1 := itoa_len_le h
  have h2 : ((10 ^ k : Nat) : Int) = (10 : Int) ^ k := by simp
  omega
theorem add_len {x y : Int} {k : Nat} (hx : (itoa x).length ≤ k) (hy : (itoa y).length ≤ k) : (itoa (x + y)).length ≤ k + 2 := by
  refine itoa_len_of (k := k + 1) (by omega) ?_
  have h1 := natAbs_of_len hx
  have h2 := natAbs_of_len hy
  rw [Nat.pow_succ]
  omega
theorem mul_len {x y : Int} {k j : Nat} (hk : 1 ≤ k) (hx : (itoa x).length ≤ k) (hy : (itoa y).length ≤ j) : (itoa (x * y)).length ≤ k + j + 1 := by
  refine itoa_len_of (k := k + j) (by omega) ?_
  rw [Int.natAbs_mul, Nat.pow_add]
  exact Nat.mul_lt_mul'' (natAbs_of_len hx) (natAbs_of_len hy)
theorem neg_len {x : Int} {k : Nat} (hx : (itoa x).length ≤ k) (hk : 1 ≤ k) : (itoa (-x)).length ≤ k + 1 := itoa_len_of hk (by rw [Int.natAbs_neg]; exact natAbs_of_len hx)

set_option maxHeartbeats 1000000 in
theorem sub_n (x y : Int) (w : World) (hx : (itoa x).length ≤ 100000) (hy : (itoa y).length ≤ 99999) (htab : TabIs Tryz.prog w "internal/strconv.uint64pow10" .u64 pow10Tab) :
    Calls Tryz.prog 25 #[.string ⟨(itoa x).toArray⟩, .string ⟨(itoa y).toArray⟩] w fun e w' => e = .returned (.string ⟨(itoa (x - y)).toArray⟩) ∧ Below w.heap.size w w' := by
  have hN := Lib.hid (neg_n y w (by omega))
  have hlen := neg_len hy (by decide)
  have hA := Lib.hid (add_n x (-y) w hx (by omega) htab)
  have he : x + -y = x - y := by omega
  rw [he] at hA
  clear he
  go_enter Tryz.func25, Tryz.ntmps25
  go_wp2_with (first
    | (go_at_call 30; refine hN.out.mono ?_; rintro e w1 ⟨rfl, rfl⟩)
    | (go_at_call 24; refine hA.out.mono ?_; rintro e w2 ⟨rfl, hb⟩))
  go_ret
  exact ⟨rfl, hb⟩

end Go.Proofs.YtpjknkembghjcaaGreatDoor

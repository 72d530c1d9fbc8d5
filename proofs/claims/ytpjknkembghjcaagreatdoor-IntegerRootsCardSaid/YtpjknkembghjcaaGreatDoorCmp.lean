/- Plain facts: bytes of two numerals compared. No program in sight. -/
import Derived.Test.YtpjknkembghjcaaGreatDoorChunk
import Derived.Lib.Bytealg
set_option linter.unusedVariables false
namespace Go.Proofs.YtpjknkembghjcaaGreatDoor.Cmp
open Go.Lib Go.Proofs.YtpjknkembghjcaaGreatDoor.Dec Go.Proofs.YtpjknkembghjcaaGreatDoor.Mag

theorem head_lt {c d : UInt8} {l m : List UInt8} (hl : AllDig (c :: l)) (hm : AllDig (d :: m)) (hn : l.length = m.length) (h : c.toNat < d.toNat) : dval (c :: l) < dval (d :: m) := by
  rw [dval_cons, dval_cons, ← hn]
  have h1 := dval_lt hl.tail
  have h2 := hl.head
  have h3 : (c.toNat - 48 + 1) * 10 ^ l.length ≤ (d.toNat - 48) * 10 ^ l.length := Nat.mul_le_mul_right _ (by omega)
  rw [Nat.add_mul, Nat.one_mul] at h3
  omega

theorem cmp_dig {l m : List UInt8} (hl : AllDig l) (hm : AllDig m) (hn : l.length = m.length) : compareBytes l m = cmpI (dval l) (dval m) := by
  induction l generalizing m with
  | nil =>
    obtain rfl : m = [] := List.length_eq_zero_iff.1 hn.symm
    simp [compareBytes, cmpI]
  | cons c l ih =>
    cases m with
    | nil => simp at hn
    | cons d m =>
      have hn' : l.length = m.length := by simpa using hn
      rw [compareBytes]
      by_cases h1 : c < d
      · rw [if_pos h1, cmpI_lt (by have := head_lt hl hm hn' (UInt8.lt_iff_toNat_lt.1 h1); omega)]
      · rw [if_neg h1]
        by_cases h2 : d < c
        · rw [if_pos h2, cmpI_gt (by have := head_lt hm hl hn'.symm (UInt8.lt_iff_toNat_lt.1 h2); omega)]
        · rw [if_neg h2, ih hl.tail hm.tail hn']
          have he : c.toNat = d.toNat := by
            rw [UInt8.lt_iff_toNat_lt] at h1 h2; omega
          rw [dval_cons, dval_cons, hn', he]
          unfold cmpI
          split <;> split <;> first | rfl | (split <;> first | rfl | omega) | omega

/-- Numerals of unequal length. -/
theorem dec_lt_of_len {u v : Nat} (h : (decDigits u).length < (decDigits v).length) : u < v := by
  rcases Nat.lt_or_ge u v with h1 | h1
  · exact h1
  · have := dec_len_mono h1; omega

end Go.Proofs.YtpjknkembghjcaaGreatDoor.Cmp

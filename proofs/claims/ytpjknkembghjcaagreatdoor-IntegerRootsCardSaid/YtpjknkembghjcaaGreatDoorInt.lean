/- Plain facts: canonical numerals parsed as a signed number of 64 bits. No program in sight. -/
import Derived.Test.YtpjknkembghjcaaGreatDoorChunk
import Derived.Lib.ParseIntBCases
import Derived.Lib.ParseIntBTie
set_option linter.unusedVariables false
namespace Go.Proofs.YtpjknkembghjcaaGreatDoor.Chunk
open Go.Lib Go.Proofs.YtpjknkembghjcaaGreatDoor.Dec Go.Proofs.YtpjknkembghjcaaGreatDoor.Mag

theorem parseM_big {M : Nat} {l : List UInt8} (h : AllDig l) (acc : Nat) (ha : acc ≤ M) (hb : M < acc * 10 ^ l.length + dval l) :
    parseUintM M acc l = .range := by
  induction l generalizing acc with
  | nil => simp [dval_nil] at hb; omega
  | cons c l ih =>
    have hc := h.head
    have e : acc * 10 ^ (c :: l).length + dval (c :: l) = (acc * 10 + (c.toNat - 48)) * 10 ^ l.length + dval l := by
      rw [dval_cons, List.length_cons, Nat.pow_succ, Nat.add_mul, Nat.mul_assoc, Nat.mul_comm 10, Nat.add_assoc]
    rw [e] at hb
    rw [parseUintM, if_pos hc]
    split
    · rfl
    · split
      · rfl
      · exact ih h.tail _ (by omega) hb

theorem parse_big {l : List UInt8} (h : AllDig l) (hn : l ≠ []) (hv : 18446744073709551616 ≤ dval l) : parseUintB 64 l = .range := by
  rw [parseUintB, if_neg hn]
  exact parseM_big h 0 (Nat.zero_le _) (by omega)

theorem dec_first (u : Nat) : ∃ c l, decDigits u = c :: l ∧ c.toNat ≠ 43 ∧ c.toNat ≠ 45 := by
  have h := dec_all u
  have h1 := dec_ne u
  cases e : decDigits u with
  | nil => exact absurd e h1
  | cons c l =>
    rw [e] at h
    have := h.head
    exact ⟨c, l, rfl, by omega, by omega⟩

theorem parse_itoa {x : Int} (h0 : -9223372036854775808 ≤ x) (h1 : x < 9223372036854775808) : parseIntB 64 (itoa x) = .ok x := by
  by_cases hx : x < 0
  · rw [Dec.itoa_neg hx, parseIntB_minus, parse_dig (dec_all _) (dec_ne _) (by rw [dval_dec]; omega), dval_dec]
    have : ¬ 2 ^ (64 - 1) < x.natAbs := by omega
    rw [signedC, if_neg this]
    congr 1
    omega
  · obtain ⟨c, l, e, h43, h45⟩ := dec_first x.natAbs
    have hd := parse_dig (dec_all x.natAbs) (dec_ne _) (by rw [dval_dec]; omega)
    rw [dval_dec] at hd
    rw [Dec.itoa_nonneg (by omega), e, parseIntB_plain _ _ _ h43 h45, ← e, hd]
    have : ¬ 2 ^ (64 - 1) ≤ x.natAbs := by omega
    rw [signlessC, if_neg this]
    congr 1
    omega

theorem parse_itoa_range {x : Int} (h : ¬ (-9223372036854775808 ≤ x ∧ x < 9223372036854775808)) : parseIntB 64 (itoa x) = .range := by
  by_cases hx : x < 0
  · rw [Dec.itoa_neg hx, parseIntB_minus]
    by_cases hb : 18446744073709551616 ≤ x.natAbs
    · rw [parse_big (dec_all _) (dec_ne _) (by rw [dval_dec]; exact hb)]; rfl
    · rw [parse_dig (dec_all _) (dec_ne _) (by rw [dval_dec]; omega), dval_dec]
      have : 2 ^ (64 - 1) < x.natAbs := by omega
      rw [signedC, if_pos this]
  · obtain ⟨c, l, e, h43, h45⟩ := dec_first x.natAbs
    rw [Dec.itoa_nonneg (by omega), e, parseIntB_plain _ _ _ h43 h45, ← e]
    by_cases hb : 18446744073709551616 ≤ x.natAbs
    · rw [parse_big (dec_all _) (dec_ne _) (by rw [dval_dec]; exact hb)]; rfl
    · rw [parse_dig (dec_all _) (dec_ne _) (by rw [dval_dec]; omega), dval_dec]
      have : 2 ^ (64 - 1) ≤ x.natAbs := by omega
      rw [signlessC, if_pos this]

/-- The length of a numeral says how great it is. -/
theorem itoa_len_le {x : Int} {k : Nat} (h : (itoa x).length ≤ k) : -((10 : Int) ^ k) < x ∧ x < (10 : Int) ^ k := by
  have h1 := lt_pow_dec x.natAbs
  by_cases hx : x < 0
  · rw [Dec.itoa_neg hx, List.length_cons] at h
    have h2 : 10 ^ (decDigits x.natAbs).length ≤ 10 ^ k := Nat.pow_le_pow_right (by decide) (by omega)
    have h3 : ((10 ^ k : Nat) : Int) = (10 : Int) ^ k := by simp
    omega
  · rw [Dec.itoa_nonneg (by omega)] at h
    have h2 : 10 ^ (decDigits x.natAbs).length ≤ 10 ^ k := Nat.pow_le_pow_right (by decide) (by omega)
    have h3 : ((10 ^ k : Nat) : Int) = (10 : Int) ^ k := by simp
    omega

end Go.Proofs.YtpjknkembghjcaaGreatDoor.Chunk

/- The reference: Split, Neg, Abs, Sign. -/
import Derived.Test.YtpjknkembghjcaaGreatDoorNeg
import Derived.Test.YtpjknkembghjcaaGreatDoorInt
set_option linter.unusedVariables false
set_option linter.unusedSimpArgs false
namespace Go.Proofs.YtpjknkembghjcaaGreatDoor
open Go.RowKit Go.Lib Go.Proofs.YtpjknkembghjcaaGreatDoor.Dec Go.Proofs.YtpjknkembghjcaaGreatDoor.Mag Go.Proofs.YtpjknkembghjcaaGreatDoor.Chunk

theorem prefix_cons (c d : UInt8) (r : List UInt8) : hasPrefix (c :: r) [d] = (d == c) := by
  simp [hasPrefix, List.isPrefixOf]
theorem trim_hit (d : UInt8) (r : List UInt8) : trimPrefix (d :: r) [d] = r := by simp [trimPrefix, prefix_cons]
theorem trim_miss {c d : UInt8} {r : List UInt8} (h : c ≠ d) : trimPrefix (c :: r) [d] = c :: r := by
  have : (d == c) = false := beq_eq_false_iff_ne.2 (fun e => h e.symm)
  simp [trimPrefix, prefix_cons, this]
theorem byte_ne {c d : UInt8} (h : c ≠ d) : ((c.toNat : Int) == (d.toNat : Int)) = false := by
  rw [beq_eq_false_iff_ne]
  exact fun e => h (UInt8.toNat_inj.1 (by omega))
theorem head_get (c : UInt8) (r : List UInt8) (h : 0 < (⟨(c :: r).toArray⟩ : ByteArray).size) : (⟨(c :: r).toArray⟩ : ByteArray)[0]'h = c := rfl

set_option maxHeartbeats 1000000 in
set_option maxRecDepth 100000 in
theorem ref_split (l : List UInt8) (w : World) (hl : l.length ≤ 100000000) :
    Calls Tryz.prog 42 #[.string ⟨l.toArray⟩] w fun e w' => e = .returned (.tuple #[.bool (hasPrefix l [45]), .string ⟨(trimPrefix l [45]).toArray⟩]) ∧ ∃ n, w' = w.drewN n := by
  cases l with
  | nil =>
    go_enter Tryz.func42, Tryz.ntmps42
    go_wp2
    go_ret2
    exact ⟨rfl, 0, rfl⟩
  | cons c r =>
    have hsz := str_size (c :: r)
    have hcut := str_cut (c :: r) 1 _ rfl
    rw [List.drop_succ_cons, List.drop_zero] at hcut
    have HC := Lib.hid (show (⟨(c :: r).toArray⟩ : ByteArray).extract 1 (r.length + 1) = ⟨r.toArray⟩ from hcut)
    clear hcut
    by_cases hc : c = 45
    · subst hc
      rw [prefix_cons, trim_hit]
      have hg := head_get 45 r
      go_enter Tryz.func42, Tryz.ntmps42
      go_wp2
      go_quiet (fail)
      go_wp2
      go_ret2
      refine ⟨?_, _, rfl⟩
      show Ending.returned (.tuple #[.bool true, .string ((⟨(45 :: r).toArray⟩ : ByteArray).extract 1 (r.length + 1))]) = _
      rw [HC.out]
      rfl
    · rw [prefix_cons, trim_miss hc, show ((45 : UInt8) == c) = false from beq_eq_false_iff_ne.2 (fun e => hc e.symm)]
      have hb : ((c.toNat : Int) == 45) = false := byte_ne hc
      have hg := head_get c r
      go_enter Tryz.func42, Tryz.ntmps42
      go_wp2
      go_ret2
      exact ⟨rfl, 0, rfl⟩

theorem ref_split_n (x : Int) (w : World) (hl : (itoa x).length ≤ 100000000) :
    Calls Tryz.prog 42 #[.string ⟨(itoa x).toArray⟩] w fun e w' => e = .returned (.tuple #[.bool (decide (x < 0)), .string ⟨(decDigits x.natAbs).toArray⟩]) ∧ ∃ n, w' = w.drewN n := by
  have h := ref_split (itoa x) w hl
  rwa [prefix_itoa, trim_itoa, itoa_nat] at h

theorem below_dn {w w' : World} (h : ∃ n, w' = w.drewN n) : Below w.heap.size w w' := by
  obtain ⟨n, rfl⟩ := h
  exact below_drewN (Below.refl _ _) n

set_option maxHeartbeats 1000000 in
set_option maxRecDepth 100000 in
theorem ref_neg_n (x : Int) (w : World) (hl : (itoa x).length ≤ 100000000) :
    Calls Tryz.prog 31 #[.string ⟨(itoa x).toArray⟩] w fun e w' => e = .returned (.string ⟨(itoa (-x)).toArray⟩) ∧ ∃ n, w' = w.drewN n := by
  have hS := Lib.hid (ref_split_n x w hl)
  rcases Int.lt_trichotomy x 0 with hx | hx | hx
  · have hd : decide (x < 0) = true := by simpa using hx
    have he := Lib.hid (show itoa (-x) = decDigits x.natAbs by rw [Dec.itoa_nonneg (by omega), Int.natAbs_neg])
    rw [he.out]
    go_enter Tryz.func31, Tryz.ntmps31
    go_wp2_with (go_at_call 42; refine hS.out.mono ?_; rintro e w' ⟨rfl, n, rfl⟩; rw [hd])
    go_ret
    exact ⟨rfl, _, rfl⟩
  · subst hx
    rw [itoa_zero] at hS
    have hd : decide ((0 : Int) < 0) = false := by decide
    have hz : decDigits (Int.natAbs 0) = [48] := dec_zero
    rw [hz, hd] at hS
    rw [show (-0 : Int) = 0 by decide, itoa_zero]
    go_enter Tryz.func31, Tryz.ntmps31
    go_wp2_with (go_at_call 42; refine hS.out.mono ?_; rintro e w' ⟨rfl, n, rfl⟩)
    go_ret
    exact ⟨rfl, _, rfl⟩
  · have hd : decide (x < 0) = false := by simpa using Int.le_of_lt hx
    have hz : (itoa x == [48]) = false := by
      rw [beq_eq_false_iff_ne]; intro e; have := itoa_eq_zero.1 e; omega
    have hlq : (decDigits x.natAbs).length ≤ 100000000 := by rw [Dec.itoa_nonneg (by omega)] at hl; exact hl
    have he := Lib.hid (show itoa (-x) = 45 :: decDigits x.natAbs by rw [Dec.itoa_neg (by omega), Int.natAbs_neg])
    rw [he.out]
    go_enter Tryz.func31, Tryz.ntmps31
    go_wp2_with (go_at_call 42; refine hS.out.mono ?_; rintro e w' ⟨rfl, n, rfl⟩; rw [hd])
    go_ret
    exact ⟨rfl, _, rfl⟩

end Go.Proofs.YtpjknkembghjcaaGreatDoor

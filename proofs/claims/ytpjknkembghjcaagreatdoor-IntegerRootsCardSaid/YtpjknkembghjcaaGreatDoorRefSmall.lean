/- The reference's Small. -/
import Derived.Test.YtpjknkembghjcaaGreatDoorRefParse
set_option linter.unusedVariables false
set_option linter.unusedSimpArgs false
namespace Go.Proofs.YtpjknkembghjcaaGreatDoor
open Go.RowKit Go.Lib Go.Proofs.YtpjknkembghjcaaGreatDoor.Dec Go.Proofs.YtpjknkembghjcaaGreatDoor.Mag Go.Proofs.YtpjknkembghjcaaGreatDoor.Chunk

/-- What Small answers: the int, if there is one. -/
def smallVal (x : Int) : Int := if -9223372036854775808 ≤ x ∧ x < 9223372036854775808 then x else 0
def smallIs (x : Int) : Bool := decide (-9223372036854775808 ≤ x ∧ x < 9223372036854775808)
theorem small_in {x : Int} (h : -9223372036854775808 ≤ x ∧ x < 9223372036854775808) : smallVal x = x ∧ smallIs x = true := ⟨if_pos h, decide_eq_true h⟩
theorem small_out {x : Int} (h : ¬ (-9223372036854775808 ≤ x ∧ x < 9223372036854775808)) : smallVal x = 0 ∧ smallIs x = false := ⟨if_neg h, decide_eq_false h⟩

theorem dval_take_succ {t : List UInt8} {k : Nat} (hk : k < t.length) : dval (t.take (k + 1)) = dval (t.take k) * 10 + (t[k].toNat - 48) := by
  rw [List.take_succ_eq_append_getElem hk, dval_snoc]
theorem dval_take_le {t : List UInt8} (h : AllDig t) (k : Nat) : dval (t.take k) ≤ dval t := by
  have e : dval t = dval (t.take k) * 10 ^ (t.drop k).length + dval (t.drop k) := by
    rw [← dval_append, List.take_append_drop]
  have h1 : 1 ≤ 10 ^ (t.drop k).length := Nat.one_le_pow _ _ (by decide)
  have h2 : dval (t.take k) ≤ dval (t.take k) * 10 ^ (t.drop k).length := Nat.le_mul_of_pos_right _ h1
  omega

theorem small_step {m d : Int} (m0 : 0 ≤ m) (d0 : 0 ≤ d) (d1 : d ≤ 9) : (-m < (-9223372036854775808 + d).tdiv 10) ↔ 9223372036854775808 < 10 * m + d := by
  have e : (-9223372036854775808 + d).tdiv 10 = -((9223372036854775808 - d) / 10) := by
    rw [show -9223372036854775808 + d = -(9223372036854775808 - d) by omega, Int.neg_tdiv, Int.tdiv_eq_ediv_of_nonneg (by omega)]
  rw [e]
  omega

set_option maxHeartbeats 1000000 in
set_option maxRecDepth 100000 in
theorem ref_small_long (x : Int) (w : World) (hl : (itoa x).length ≤ 1000000) (h19 : 19 < (decDigits x.natAbs).length) :
    Calls Tryz.prog 47 #[.string ⟨(itoa x).toArray⟩] w fun e w' => e = .returned (.tuple #[.int .i64 (smallVal x), .bool (smallIs x)]) ∧ Below w.heap.size w w' := by
  have hS := Lib.hid (ref_split_n x w (by omega))
  have hst := str_size (decDigits x.natAbs)
  have h1 := dec_len_lt (u := x.natAbs) (k := 19) h19 (by decide)
  obtain ⟨e1, e2⟩ := small_out (x := x) (by omega)
  rw [e1, e2]
  have hlt : (decDigits x.natAbs).length ≤ 1000001 := by
    have : (decDigits x.natAbs).length ≤ (itoa x).length := by rw [itoa_signed, signed]; split <;> simp
    omega
  clear h1 e1 e2
  generalize decDigits x.natAbs = t at *
  have h19' : (19 : Int) < (t.length : Int) := by omega
  go_enter Tryz.func47, Tryz.ntmps47
  go_wp2_with (go_at_call 42; refine hS.out.mono ?_; rintro e w1 ⟨rfl, hw1⟩; have hb1 := below_dn hw1; clear hw1)
  go_ret2
  exact ⟨rfl, hb1⟩

set_option maxHeartbeats 1000000 in
set_option maxRecDepth 100000 in
theorem ref_small_short (x : Int) (w : World) (h19 : (decDigits x.natAbs).length ≤ 19) :
    Calls Tryz.prog 47 #[.string ⟨(itoa x).toArray⟩] w fun e w' => e = .returned (.tuple #[.int .i64 (smallVal x), .bool (smallIs x)]) ∧ Below w.heap.size w w' := by
  have hil : (itoa x).length ≤ 20 := by
    rw [itoa_signed, signed]
    split
    · rw [List.length_cons]; omega
    · omega
  have hS := Lib.hid (ref_split_n x w (by omega))
  have hst := str_size (decDigits x.natAbs)
  have hal := Lib.hid (dec_all x.natAbs)
  have hdv := Lib.hid (dval_dec x.natAbs)
  obtain ⟨V, hV⟩ : ∃ V, smallVal x = V := ⟨_, rfl⟩
  obtain ⟨B, hB⟩ : ∃ B, smallIs x = B := ⟨_, rfl⟩
  rw [hV, hB]
  have HV := Lib.hid hV
  have HB := Lib.hid hB
  clear hV hB
  generalize decDigits x.natAbs = t at *
  generalize hsx : decide (x < 0) = sx at *
  have HSX := Lib.hid hsx
  clear hsx
  have h19' : ¬ (19 : Int) < (t.length : Int) := by omega
  go_enter Tryz.func47, Tryz.ntmps47
  go_wp2_with (go_at_call 42; refine hS.out.mono ?_; rintro e w1 ⟨rfl, hw1⟩; have hb1 := below_dn hw1; clear hw1; refine Hid.out ?_)
  refine Lib.hid ?_
  go_wp2_with fail
  go_loopw [6, 7] (fun nv iv wr => ∃ (k : Nat) (m : Int), nv = .int .i64 (-m) ∧ iv = .int .i64 k ∧ k ≤ t.length ∧ Hid (m = dval (t.take k)) ∧ 0 ≤ m ∧ m ≤ 9223372036854775808 ∧ wr = w1) (fun _ iv _ => t.length - (intOf iv).toNat)
  case atStart => exact ⟨0, 0, rfl, rfl, Nat.zero_le _, Lib.hid rfl, by decide, by decide, rfl⟩
  case round =>
    obtain ⟨k, m, rfl, rfl, hk, hm, m0, m1, hw⟩ := hrel
    obtain rfl : wr = w1 := hw
    by_cases hkt : k < t.length
    · obtain ⟨b, hbk⟩ : ∃ b, t[k] = b := ⟨_, rfl⟩
      have hget : ∀ h, (⟨t.toArray⟩ : ByteArray)[k]'h = b := fun h => (byte_at t k hkt h).trans hbk
      have hd := hal.out b (by rw [← hbk]; exact List.getElem_mem hkt)
      obtain ⟨hd0, hd1⟩ := hd
      have hd0' : 48 ≤ (b.toNat : Int) := by omega
      have hd1' : (b.toNat : Int) ≤ 57 := by omega
      have HBK := Lib.hid hbk
      clear hbk hd0 hd1
      have hst2 := small_step (m := m) (d := (b.toNat : Int) - 48) m0 (by omega) (by omega)
      by_cases hfit : 10 * m + ((b.toNat : Int) - 48) ≤ 9223372036854775808
      · have hno : ¬ (-m < (-9223372036854775808 + ((b.toNat : Int) - 48)).tdiv 10) := fun h => by have := hst2.1 h; omega
        have hnd := decide_eq_false hno
        have hm2 := Lib.hid (show 10 * m + ((b.toNat : Int) - 48) = dval (t.take (k + 1)) by
          have h1 := dval_take_succ hkt
          rw [HBK.out] at h1
          rw [h1, hm.out]
          omega)
        clear hst2
        go_wp2_with fail
        go_roundw
        case rel => exact ⟨k + 1, 10 * m + ((b.toNat : Int) - 48), by congr 1; omega, rfl, by omega, hm2, by omega, hfit, by first | trivial | rfl⟩
        case measure => simp [intOf]; omega
      · have hyes : -m < (-9223372036854775808 + ((b.toNat : Int) - 48)).tdiv 10 := hst2.2 (by omega)
        have hyd := decide_eq_true hyes
        have hx9 : 9223372036854775808 < x.natAbs := by
          have h1 := dval_take_succ hkt
          have h2 := dval_take_le hal.out (k + 1)
          rw [HBK.out] at h1
          have h3 := hm.out
          rw [hdv.out] at h2
          omega
        obtain ⟨e1, e2⟩ := small_out (x := x) (by omega)
        have E1 := Lib.hid (HV.out.symm.trans e1)
        have E2 := Lib.hid (HB.out.symm.trans e2)
        clear hst2 hx9 e1 e2 hfit hyes
        go_wp2_with fail
        go_ret2
        exact ⟨by rw [E1.out, E2.out]; rfl, hb1⟩
    · obtain rfl : k = t.length := by omega
      have hmx : m = x.natAbs := by
        have h3 := hm.out
        rw [List.take_length, hdv.out] at h3
        exact h3
      cases sx
      · have hx0 : ¬ x < 0 := by have := HSX.out; simpa using this
        by_cases hm9 : m = 9223372036854775808
        · obtain ⟨e1, e2⟩ := small_out (x := x) (by omega)
          have E1 := Lib.hid (HV.out.symm.trans e1)
          have E2 := Lib.hid (HB.out.symm.trans e2)
          subst hm9
          clear hmx e1 e2 hm hk m0 m1 hx0
          go_wp2_with fail
          go_ret2
          exact ⟨by rw [E1.out, E2.out]; rfl, hb1⟩
        · obtain ⟨e1, e2⟩ := small_in (x := x) (by omega)
          have E1 := Lib.hid (HV.out.symm.trans (e1.trans (show x = m by omega)))
          have E2 := Lib.hid (HB.out.symm.trans e2)
          have hne : (-m == -9223372036854775808) = false := beq_eq_false_iff_ne.2 (by omega)
          have hm8 : m < 9223372036854775808 := by omega
          clear hmx e1 e2 hm hx0 hm9
          go_wp2_with fail
          go_ret2
          exact ⟨by rw [E1.out, E2.out]; rfl, hb1⟩
      · have hx0 : x < 0 := by have := HSX.out; simpa using this
        obtain ⟨e1, e2⟩ := small_in (x := x) (by omega)
        have E1 := Lib.hid (HV.out.symm.trans (e1.trans (show x = -m by omega)))
        have E2 := Lib.hid (HB.out.symm.trans e2)
        clear hmx e1 e2 hm hx0
        go_wp2_with fail
        go_ret2
        exact ⟨by rw [E1.out, E2.out]; rfl, hb1⟩

/-- The reference's Small. -/
theorem ref_small_n (x : Int) (w : World) (hl : (itoa x).length ≤ 1000000) :
    Calls Tryz.prog 47 #[.string ⟨(itoa x).toArray⟩] w fun e w' => e = .returned (.tuple #[.int .i64 (smallVal x), .bool (smallIs x)]) ∧ Below w.heap.size w w' := by
  by_cases h : 19 < (decDigits x.natAbs).length
  · exact ref_small_long x w hl h
  · exact ref_small_short x w (by omega)

end Go.Proofs.YtpjknkembghjcaaGreatDoor

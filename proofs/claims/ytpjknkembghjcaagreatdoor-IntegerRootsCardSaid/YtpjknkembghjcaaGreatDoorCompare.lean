/- integer.Compare. -/
import Derived.Test.YtpjknkembghjcaaGreatDoorNeg
import Derived.Test.YtpjknkembghjcaaGreatDoorCmp
set_option linter.unusedVariables false
set_option linter.unusedSimpArgs false
namespace Go.Proofs.YtpjknkembghjcaaGreatDoor
open Go.RowKit Go.Lib Go.Proofs.YtpjknkembghjcaaGreatDoor.Dec Go.Proofs.YtpjknkembghjcaaGreatDoor.Mag Go.Proofs.YtpjknkembghjcaaGreatDoor.Cmp

theorem cmp_sign {x y : Int} (h : x.sign = y.sign) : cmpI x y = x.sign * cmpI (x.natAbs : Int) (y.natAbs : Int) := by
  rcases Int.lt_trichotomy x 0 with hx | hx | hx
  · have hs := Int.sign_eq_neg_one_of_neg hx
    have hy : y < 0 := Int.sign_eq_neg_one_iff_neg.1 (by rw [← h, hs])
    rw [hs]
    unfold cmpI
    split <;> split <;> first | omega | (split <;> first | omega | (split <;> omega)) 
  · subst hx
    have hy : y = 0 := Int.sign_eq_zero_iff_zero.1 (by rw [← h]; rfl)
    subst hy; rfl
  · have hs := Int.sign_eq_one_of_pos hx
    have hy : 0 < y := Int.sign_eq_one_iff_pos.1 (by rw [← h, hs])
    rw [hs, Int.one_mul]
    congr 1 <;> omega

theorem sign_lt {x y : Int} (h : x.sign < y.sign) : x < y := by
  rcases Int.lt_trichotomy x 0 with h1 | h1 | h1 <;> rcases Int.lt_trichotomy y 0 with h2 | h2 | h2
  all_goals first
    | omega
    | (rw [Int.sign_eq_neg_one_of_neg h2] at h; subst h1; exact absurd h (by decide))
    | (rw [Int.sign_eq_neg_one_of_neg h1, Int.sign_eq_neg_one_of_neg h2] at h; exact absurd h (by decide))
    | (subst h1 h2; exact absurd h (by decide))
    | (rw [Int.sign_eq_one_of_pos h1, Int.sign_eq_one_of_pos h2] at h; exact absurd h (by decide))
    | (rw [Int.sign_eq_one_of_pos h1] at h; subst h2; exact absurd h (by decide))
    | (rw [Int.sign_eq_one_of_pos h1, Int.sign_eq_neg_one_of_neg h2] at h; exact absurd h (by decide))
theorem sign_bound (x : Int) : -1 ≤ x.sign ∧ x.sign ≤ 1 := by
  rcases Int.lt_trichotomy x 0 with h | h | h
  · rw [Int.sign_eq_neg_one_of_neg h]; omega
  · subst h; decide
  · rw [Int.sign_eq_one_of_pos h]; omega

set_option maxHeartbeats 1000000 in
set_option maxRecDepth 100000 in
theorem compare_other (x y : Int) (w : World) (hs : x.sign ≠ y.sign) :
    Calls Tryz.prog 28 #[.string ⟨(itoa x).toArray⟩, .string ⟨(itoa y).toArray⟩] w fun e w' => e = .returned (.int .i64 (cmpI x y)) ∧ w' = w := by
  have bx := sign_bound x
  have bY := sign_bound y
  rcases Int.lt_or_gt_of_ne hs with h | h
  all_goals
    have h2 := Lib.hid (sign_lt h)
    first | rw [cmpI_lt h2.out] | rw [cmpI_gt h2.out]
    have hne : (x.sign != y.sign) = true := by rw [bne_iff_ne]; exact hs
    have HX := Lib.hid (rfl : x.sign = x.sign)
    generalize hxs : x.sign = s at *
    generalize hys : y.sign = t at *
    have KX := Lib.hid hxs
    have KY := Lib.hid hys
    clear hxs hys HX hs
    go_enter Tryz.func28, Tryz.ntmps28
    go_wp2_with (first
      | (go_at_call 27; refine (sign_n x _).mono ?_; rintro e w' ⟨rfl, rfl⟩; rw [KX.out])
      | (go_at_call 27; refine (sign_n y _).mono ?_; rintro e w' ⟨rfl, rfl⟩; rw [KY.out]))
    go_ret
    exact ⟨rfl, rfl⟩

set_option maxHeartbeats 1000000 in
set_option maxRecDepth 100000 in
theorem compare_len (x y : Int) (w : World) (hx : (itoa x).length ≤ 100000000) (hy : (itoa y).length ≤ 100000000) (hs : x.sign = y.sign)
    (hl : (itoa (x.natAbs : Int)).length ≠ (itoa (y.natAbs : Int)).length) :
    Calls Tryz.prog 28 #[.string ⟨(itoa x).toArray⟩, .string ⟨(itoa y).toArray⟩] w fun e w' => e = .returned (.int .i64 (cmpI x y)) ∧ w' = w := by
  have tx := trim_itoa x
  have ty := trim_itoa y
  have lx := str_size (itoa (x.natAbs : Int))
  have ly := str_size (itoa (y.natAbs : Int))
  have hb := sign_bound x
  have hc := Lib.hid (cmp_sign hs)
  rw [hc.out]
  have HS := Lib.hid hs.symm
  clear hs
  generalize hxs : x.sign = s at hb HS
  have HX := Lib.hid hxs
  clear hxs
  rcases Nat.lt_or_gt_of_ne hl with h | h
  · have h1 := h
    rw [itoa_nat, itoa_nat] at h1
    have h2 := dec_lt_of_len h1
    rw [cmpI_lt (show (x.natAbs : Int) < (y.natAbs : Int) by omega), show s * -1 = -s by omega]
    clear h1 h2
    go_enter Tryz.func28, Tryz.ntmps28
    go_wp2_with (first
      | (go_at_call 27; refine (sign_n x _).mono ?_; rintro e w' ⟨rfl, rfl⟩; rw [HX.out])
      | (go_at_call 27; refine (sign_n y _).mono ?_; rintro e w' ⟨rfl, rfl⟩; rw [HS.out])
      | (go_at_call 56; refine (Tryz.strings_TrimPrefix _ _ _).mono ?_; rintro e w' ⟨rfl, rfl⟩; first | simp only [tx] | simp only [ty]))
    go_ret
    exact ⟨rfl, rfl⟩
  · have h1 := h
    rw [itoa_nat, itoa_nat] at h1
    have h2 := dec_lt_of_len h1
    rw [cmpI_gt (show (y.natAbs : Int) < (x.natAbs : Int) by omega), Int.mul_one]
    clear h1 h2
    go_enter Tryz.func28, Tryz.ntmps28
    go_wp2_with (first
      | (go_at_call 27; refine (sign_n x _).mono ?_; rintro e w' ⟨rfl, rfl⟩; rw [HX.out])
      | (go_at_call 27; refine (sign_n y _).mono ?_; rintro e w' ⟨rfl, rfl⟩; rw [HS.out])
      | (go_at_call 56; refine (Tryz.strings_TrimPrefix _ _ _).mono ?_; rintro e w' ⟨rfl, rfl⟩; first | simp only [tx] | simp only [ty]))
    go_ret
    exact ⟨rfl, rfl⟩

set_option maxHeartbeats 4000000 in
set_option maxRecDepth 100000 in
theorem compare_bytes (x y : Int) (w : World) (hx : (itoa x).length ≤ 100000000) (hy : (itoa y).length ≤ 100000000) (hs : x.sign = y.sign)
    (hl : (itoa (x.natAbs : Int)).length = (itoa (y.natAbs : Int)).length) :
    Calls Tryz.prog 28 #[.string ⟨(itoa x).toArray⟩, .string ⟨(itoa y).toArray⟩] w fun e w' => e = .returned (.int .i64 (cmpI x y)) ∧ w' = w := by
  have tx := trim_itoa x
  have ty := trim_itoa y
  have hcb : compareBytes (itoa (x.natAbs : Int)) (itoa (y.natAbs : Int)) = cmpI (x.natAbs : Int) (y.natAbs : Int) := by
    rw [itoa_nat, itoa_nat] at *
    rw [cmp_dig (dec_all _) (dec_all _) hl, dval_dec, dval_dec]
  have hc := Lib.hid (cmp_sign hs)
  rw [hc.out]
  have hc1 : -1 ≤ cmpI (x.natAbs : Int) (y.natAbs : Int) ∧ cmpI (x.natAbs : Int) (y.natAbs : Int) ≤ 1 := by
    unfold cmpI
    split
    · omega
    · split <;> omega
  have HCB := Lib.hid hcb
  clear hcb
  generalize cmpI (x.natAbs : Int) (y.natAbs : Int) = c at *
  have lx : (⟨(itoa (x.natAbs : Int)).toArray⟩ : ByteArray).size = (itoa (y.natAbs : Int)).length := by rw [str_size, hl]
  have ly := str_size (itoa (y.natAbs : Int))
  have HS := Lib.hid hs.symm
  clear hs hl
  have h3 : x.sign = -1 ∨ x.sign = 0 ∨ x.sign = 1 := by have := sign_bound x; omega
  rcases h3 with h3 | h3 | h3
  all_goals
    rw [h3] at HS ⊢
    have H3 := Lib.hid h3
    clear h3
    go_enter Tryz.func28, Tryz.ntmps28
    go_wp2_with (first
      | (go_at_call 27; refine (sign_n x _).mono ?_; rintro e w' ⟨rfl, rfl⟩; rw [H3.out])
      | (go_at_call 27; refine (sign_n y _).mono ?_; rintro e w' ⟨rfl, rfl⟩; rw [HS.out])
      | (go_at_call 56; refine (Tryz.strings_TrimPrefix _ _ _).mono ?_; rintro e w' ⟨rfl, rfl⟩; first | simp only [tx] | simp only [ty])
      | (go_at_call 57; refine (Tryz.strings_Compare _ _ _).mono ?_; rintro e w' ⟨rfl, rfl⟩; simp only [HCB.out]))
    go_ret
    first
      | exact ⟨rfl, rfl⟩
      | exact ⟨by simp, rfl⟩
      | (trace_state; sorry)

theorem compare_n (x y : Int) (w : World) (hx : (itoa x).length ≤ 100000000) (hy : (itoa y).length ≤ 100000000) :
    Calls Tryz.prog 28 #[.string ⟨(itoa x).toArray⟩, .string ⟨(itoa y).toArray⟩] w fun e w' => e = .returned (.int .i64 (cmpI x y)) ∧ w' = w := by
  by_cases hs : x.sign = y.sign
  · by_cases hl : (itoa (x.natAbs : Int)).length = (itoa (y.natAbs : Int)).length
    · exact compare_bytes x y w hx hy hs hl
    · exact compare_len x y w hx hy hs hl
  · exact compare_other x y w hs

end Go.Proofs.YtpjknkembghjcaaGreatDoor

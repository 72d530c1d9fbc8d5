/- integer.Neg, integer.Abs. -/
import Derived.Test.YtpjknkembghjcaaGreatDoorSign
set_option linter.unusedVariables false
set_option linter.unusedSimpArgs false
namespace Go.Proofs.YtpjknkembghjcaaGreatDoor
open Go.RowKit Go.Lib Go.Proofs.YtpjknkembghjcaaGreatDoor.Dec

theorem itoa_signed (x : Int) : itoa x = signed (decide (x < 0)) (decDigits x.natAbs) := by
  by_cases hx : x < 0
  · simp [signed, hx, itoa_neg hx]
  · simp [signed, hx, itoa_nonneg (show 0 ≤ x by omega)]
theorem trim_itoa (x : Int) : trimPrefix (itoa x) [45] = itoa (x.natAbs : Int) := by
  rw [itoa_signed x, (cut_signed (dec_all x.natAbs)).1, itoa_nat]

theorem abs_n (x : Int) (w : World) :
    Calls Tryz.prog 32 #[.string ⟨(itoa x).toArray⟩] w fun e w' => e = .returned (.string ⟨(itoa (x.natAbs : Int)).toArray⟩) ∧ w' = w := by
  have ht := trim_itoa x
  go_enter Tryz.func32, Tryz.ntmps32
  go_wp2_with (go_at_call 56; refine (Tryz.strings_TrimPrefix _ _ _).mono ?_; rintro e w' ⟨rfl, rfl⟩; simp only [ht])
  go_ret
  exact ⟨rfl, rfl⟩

theorem neg_n (x : Int) (w : World) (hl : (itoa x).length ≤ 100000000) :
    Calls Tryz.prog 30 #[.string ⟨(itoa x).toArray⟩] w fun e w' => e = .returned (.string ⟨(itoa (-x)).toArray⟩) ∧ w' = w := by
  rcases Int.lt_trichotomy x 0 with hx | hx | hx
  · have hs : x.sign = -1 := Int.sign_eq_neg_one_of_neg hx
    have he : itoa x = 45 :: itoa (-x) := by rw [Dec.itoa_neg hx, Dec.itoa_nonneg (show 0 ≤ -x by omega), Int.natAbs_neg]
    have hsz : 1 ≤ (⟨(itoa x).toArray⟩ : ByteArray).size := by rw [str_size, he]; simp
    have hcut : (⟨(itoa x).toArray⟩ : ByteArray).extract 1 (itoa x).length = ⟨(itoa (-x)).toArray⟩ := by
      rw [str_cut _ _ _ rfl, he]; rfl
    have HE := Lib.hid hcut
    clear he hcut
    go_enter Tryz.func30, Tryz.ntmps30
    go_wp2_with (go_at_call 27; refine (sign_n x _).mono ?_; rintro e w' ⟨rfl, rfl⟩; rw [hs])
    go_ret
    rw [HE.out]
    exact ⟨rfl, rfl⟩
  · subst hx
    go_enter Tryz.func30, Tryz.ntmps30
    go_wp2_with (go_at_call 27; refine (sign_n 0 _).mono ?_; rintro e w' ⟨rfl, rfl⟩)
    go_ret
    exact ⟨rfl, rfl⟩
  · have hs : x.sign = 1 := Int.sign_eq_one_of_pos hx
    have he : itoa (-x) = 45 :: itoa x := by rw [Dec.itoa_neg (show -x < 0 by omega), Dec.itoa_nonneg (show 0 ≤ x by omega), Int.natAbs_neg]
    rw [he]
    go_enter Tryz.func30, Tryz.ntmps30
    go_wp2_with (go_at_call 27; refine (sign_n x _).mono ?_; rintro e w' ⟨rfl, rfl⟩; rw [hs])
    go_ret
    exact ⟨rfl, rfl⟩

end Go.Proofs.YtpjknkembghjcaaGreatDoor

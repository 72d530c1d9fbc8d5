/- integer.Sign. -/
import Derived.Test.YtpjknkembghjcaaGreatDoorOpen
set_option linter.unusedVariables false
set_option linter.unusedSimpArgs false
namespace Go.Proofs.YtpjknkembghjcaaGreatDoor
open Go.RowKit Go.Lib Go.Proofs.YtpjknkembghjcaaGreatDoor.Dec

/-- The bytes of a canonical numeral. -/
def num (x : Int) : Value := .string ⟨(itoa x).toArray⟩
theorem num_eq (x : Int) : num x = .string ⟨(itoa x).toArray⟩ := rfl

theorem prefix_itoa (x : Int) : hasPrefix (itoa x) [45] = decide (x < 0) := by
  have h := (cut_signed (neg := decide (x < 0)) (dec_all x.natAbs)).2
  rw [← h]
  congr 1
  by_cases hx : x < 0
  · simp [signed, hx, itoa_neg hx]
  · simp [signed, hx, itoa_nonneg (show 0 ≤ x by omega)]

theorem sign_n (x : Int) (w : World) :
    Calls Tryz.prog 27 #[.string ⟨(itoa x).toArray⟩] w fun e w' => e = .returned (.int .i64 x.sign) ∧ w' = w := by
  have hp := prefix_itoa x
  by_cases h0 : x = 0
  · subst h0
    go_enter Tryz.func27, Tryz.ntmps27
    rw [itoa_zero]
    go_wp2
    go_ret
    exact ⟨rfl, rfl⟩
  · have hz : (itoa x == [48]) = false := by
      rw [beq_eq_false_iff_ne]; exact fun e => h0 (itoa_eq_zero.1 e)
    have hg : hasPrefix (itoa x) [45] = true ∧ x.sign = -1 ∨ hasPrefix (itoa x) [45] = false ∧ x.sign = 1 := by
      rw [hp]
      by_cases hx : x < 0
      · exact .inl ⟨by simpa using hx, Int.sign_eq_neg_one_of_neg hx⟩
      · exact .inr ⟨by simpa using hx, Int.sign_eq_one_of_pos (by omega)⟩
    clear hp
    rcases hg with ⟨h1, h2⟩ | ⟨h1, h2⟩ <;> rw [h2]
    all_goals
      go_enter Tryz.func27, Tryz.ntmps27
      go_wp2_with (go_at_call 55; refine (Tryz.strings_HasPrefix _ _ _).mono ?_; rintro e w' ⟨rfl, rfl⟩; simp only [h1])
      go_ret
      exact ⟨rfl, rfl⟩

end Go.Proofs.YtpjknkembghjcaaGreatDoor

/- law01.known: the examples of the chapter. -/
import Derived.Test.YtpjknkembghjcaaGreatDoorParse
import Derived.Test.YtpjknkembghjcaaGreatDoorRoot
import Derived.Test.YtpjknkembghjcaaGreatDoorGcd
import Derived.Test.YtpjknkembghjcaaGreatDoorMul
set_option linter.unusedVariables false
set_option linter.unusedSimpArgs false
namespace Go.Proofs.YtpjknkembghjcaaGreatDoor
open Go.RowKit Go.Lib Go.Proofs.YtpjknkembghjcaaGreatDoor.Dec Go.Proofs.YtpjknkembghjcaaGreatDoor.Mag Go.Proofs.YtpjknkembghjcaaGreatDoor.Chunk

theorem n7 : itoa 7 = [55] := by rw [Dec.itoa_nonneg (by decide), dec_small (by decide)]; rfl
theorem n1 : itoa 1 = [49] := by rw [Dec.itoa_nonneg (by decide), dec_small (by decide)]; rfl
theorem n5 : itoa 5 = [53] := by rw [Dec.itoa_nonneg (by decide), dec_small (by decide)]; rfl
theorem n6 : itoa 6 = [54] := by rw [Dec.itoa_nonneg (by decide), dec_small (by decide)]; rfl
theorem n9 : itoa 9 = [57] := by rw [Dec.itoa_nonneg (by decide), dec_small (by decide)]; rfl
theorem n99 : itoa 99 = [57, 57] := by rw [Dec.itoa_nonneg (by decide), dec_big (by decide), dec_small (by decide)]; rfl
theorem n18 : itoa 18 = [49, 56] := by rw [Dec.itoa_nonneg (by decide), dec_big (by decide), dec_small (by decide)]; rfl
theorem nm2 : itoa (-2) = [45, 50] := by rw [Dec.itoa_neg (by decide), dec_small (by decide)]; rfl
theorem nm3 : itoa (-3) = [45, 51] := by rw [Dec.itoa_neg (by decide), dec_small (by decide)]; rfl
theorem nm12 : itoa (-12) = [45, 49, 50] := by rw [Dec.itoa_neg (by decide), dec_big (by decide), dec_small (by decide)]; rfl
theorem nm15 : itoa (-15) = [45, 49, 53] := by rw [Dec.itoa_neg (by decide), dec_big (by decide), dec_small (by decide)]; rfl

theorem div99 (z : Int) (h : 0 < z) : DivAt 99 z := by
  by_cases hz : z < 1000000000
  · exact divAt_piece (lim_of_small (by decide)) h hz
  · exact divAt_less (by decide) (by omega)

set_option maxHeartbeats 1000000 in
set_option maxRecDepth 100000 in
theorem known_n (w : World) (htab : TabIs Tryz.prog w "internal/strconv.uint64pow10" .u64 pow10Tab) :
    Calls Tryz.prog 9 #[] w fun e w' => e = .returned (.bool true) ∧ Below w.heap.size w w' := by
  have c1 := Lib.hid (fun w htab => divmod_n 7 (-2) w (by decide) (by rw [n7]; decide) (by rw [nm2]; decide) (divAt_piece (lim_of_small (by decide)) (by decide) (by decide)) htab)
  have c2 := Lib.hid (fun w => parse_n [43, 48, 48, 55] w (by decide))
  have c3 := Lib.hid (fun w htab => root_n 99 9 w (by decide) (by rw [n99]; decide) div99 (by decide) (by decide) (by decide) htab)
  have c4 := Lib.hid (fun w => parse_n [45, 45, 49] w (by decide))
  have c5 := Lib.hid (fun w htab => gcd_quick (-12) 18 w (by rw [nm12]; decide) (by rw [n18]; decide) htab)
  have c6 := Lib.hid (fun w htab => mul_n (-3) 5 w (by rw [nm3]; decide) (by rw [n5]; decide) htab)
  rw [n7, nm2, show (7 : Int) / -2 = -3 by decide, show (7 : Int) % -2 = 1 by decide, nm3, n1] at c1
  rw [show parseOut [43, 48, 48, 55] = ([55], 0) by decide] at c2
  rw [n99, n9] at c3
  rw [show parseOut [45, 45, 49] = ([], 15) by decide] at c4
  rw [nm12, n18, show ((Int.gcd (-12) 18 : Nat) : Int) = 6 by decide, n6] at c5
  rw [nm3, n5, show (-3 : Int) * 5 = -15 by decide, nm15] at c6
  have b0 : Below w.heap.size w w := Below.refl _ _
  go_enter Tryz.func9, Tryz.ntmps9
  go_wp2_with (first
    | (go_at_call 11; refine (c1.out _ htab).mono ?_; rintro e w1 ⟨rfl, h1⟩; have b1 := b0.trans (h1.mono b0.size); refine Hid.out ?_))
  refine Lib.hid ?_
  go_wp2_with (first
    | (go_at_call 33; refine (c2.out _).mono ?_; rintro e w2 ⟨rfl, h2⟩; have b2 := b1.trans (h2.mono b1.size); refine Hid.out ?_))
  refine Lib.hid ?_
  go_wp2_with (first
    | (go_at_call 18; refine (c3.out _ (tab_below htab b2)).mono ?_; rintro e w3 ⟨rfl, h3⟩; have b3 := b2.trans (h3.mono b2.size); refine Hid.out ?_))
  refine Lib.hid ?_
  go_wp2_with (first
    | (go_at_call 33; refine (c4.out _).mono ?_; rintro e w4 ⟨rfl, h4⟩; have b4 := b3.trans (h4.mono b3.size); refine Hid.out ?_))
  refine Lib.hid ?_
  go_wp2_with (first
    | (go_at_call 14; refine (c5.out _ (tab_below htab b4)).mono ?_; rintro e w5 ⟨rfl, h5⟩; have b5 := b4.trans (h5.mono b4.size); refine Hid.out ?_))
  refine Lib.hid ?_
  go_wp2_with (first
    | (go_at_call 34; refine (c6.out _ (tab_below htab b5)).mono ?_; rintro e w6 ⟨rfl, h6⟩; have b6 := b5.trans (h6.mono b5.size)))
  go_ret
  exact ⟨rfl, b6⟩

end Go.Proofs.YtpjknkembghjcaaGreatDoor

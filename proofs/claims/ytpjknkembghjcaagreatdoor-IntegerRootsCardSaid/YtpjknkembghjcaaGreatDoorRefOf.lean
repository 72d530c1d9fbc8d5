/- The reference's Of. -/
import Derived.Test.YtpjknkembghjcaaGreatDoorRefSmall
import Derived.Test.YtpjknkembghjcaaGreatDoorQuick
import Derived.Test.YtpjknkembghjcaaGreatDoorClose
set_option linter.unusedVariables false
set_option linter.unusedSimpArgs false
namespace Go.Proofs.YtpjknkembghjcaaGreatDoor
open Go.RowKit Go.Lib Go.Proofs.YtpjknkembghjcaaGreatDoor.Dec Go.Proofs.YtpjknkembghjcaaGreatDoor.Mag Go.Proofs.YtpjknkembghjcaaGreatDoor.Chunk

set_option maxHeartbeats 1000000 in
theorem ref_of_n (x : Int) (h0 : -9223372036854775808 ≤ x) (h1 : x ≤ 9223372036854775807) (w : World) (htab : TabIs Tryz.prog w "internal/strconv.uint64pow10" .u64 pow10Tab) :
    Calls Tryz.prog 17 #[.int .i64 x] w fun e w' => e = .returned (.string ⟨(itoa x).toArray⟩) ∧ Below w.heap.size w w' := by
  have hA := Lib.hid (Tryz.strconv_Itoa x h0 h1 w htab)
  clear h0 h1
  go_enter Tryz.func17, Tryz.ntmps17
  go_wp2_with (first
    | (go_at_call 52; refine hA.out.mono ?_; rintro e w' ⟨rfl, hw⟩; have HB := below_grown hw))
  go_ret
  exact ⟨rfl, HB⟩
theorem itoa_int_len {x : Int} (h0 : -9223372036854775808 ≤ x) (h1 : x ≤ 9223372036854775807) : (itoa x).length ≤ 20 := by
  have h2 := dec_len_le (u := x.natAbs) (k := 19) (by decide) (by omega)
  rw [itoa]
  split
  · rw [List.length_cons]; omega
  · rw [show x.toNat = x.natAbs by omega]; omega

end Go.Proofs.YtpjknkembghjcaaGreatDoor

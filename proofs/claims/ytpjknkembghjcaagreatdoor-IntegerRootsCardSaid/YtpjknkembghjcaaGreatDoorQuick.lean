/- integer.quick, integer.Of, integer.Small. -/
import Derived.Test.YtpjknkembghjcaaGreatDoorSign
import Derived.Test.YtpjknkembghjcaaGreatDoorInt
set_option linter.unusedVariables false
set_option linter.unusedSimpArgs false
namespace Go.Proofs.YtpjknkembghjcaaGreatDoor
open Go.RowKit Go.Lib Go.Sort Go.Proofs.YtpjknkembghjcaaGreatDoor.Dec Go.Proofs.YtpjknkembghjcaaGreatDoor.Mag Go.Proofs.YtpjknkembghjcaaGreatDoor.Chunk

theorem below_ways {w w' : World} {e : TypeId} (h : w' = w ∨ ∃ t, w' = bytesWorld w e t) : Below w.heap.size w w' := by
  rcases h with rfl | ⟨t, rfl⟩
  · exact Below.refl _ _
  · exact bytesWorld_below _ _ _
theorem below_grown {w w' : World} (h : ∃ k os, w' = grow (w.drewN k) os) : Below w.heap.size w w' := by
  obtain ⟨k, os, rfl⟩ := h
  exact ⟨rfl, rfl, rfl, by show w.heap.size ≤ (w.heap ++ os).size; rw [Array.size_append]; omega, fun _ hj => Sort.heap_grow_old (w.drewN k) os hj⟩

theorem atoi_itoa {x : Int} (h0 : -9223372036854775808 ≤ x) (h1 : x < 9223372036854775808) : atoiAll (itoa x) = .ok x := by
  rw [← parseIntB_64]; exact parse_itoa h0 h1

set_option maxHeartbeats 1000000 in
set_option maxRecDepth 100000 in
theorem quick_yes (x : Int) (most : Nat) (hm : most ≤ 18) (w : World) (hl : (itoa x).length ≤ most) :
    Calls Tryz.prog 49 #[.string ⟨(itoa x).toArray⟩, .int .i64 (most : Int)] w fun e w' => e = .returned (.tuple #[.int .i64 x, .bool true]) ∧ Below w.heap.size w w' := by
  have hs := str_size (itoa x)
  have hb := itoa_len_le (k := 18) (Nat.le_trans hl hm)
  have hA := Lib.hid (Tryz.strconv_Atoi_ok ⟨(itoa x).toArray⟩ (by rw [str_size]; omega) x (by
    simpa using atoi_itoa (x := x) (by omega) (by omega)) w)
  clear hb
  go_enter Tryz.func49, Tryz.ntmps49
  go_wp2_with (first
    | (go_at_call 73; refine hA.out.mono ?_; rintro e w' ⟨rfl, hw⟩; have HB := below_ways hw; clear hw))
  go_quiet (fail)
  go_wp2
  go_ret2
  exact ⟨rfl, below_drewN HB _⟩

set_option maxHeartbeats 1000000 in
set_option maxRecDepth 100000 in
theorem quick_no (x : Int) (most : Nat) (hm : most ≤ 18) (w : World) (hl : most < (itoa x).length) :
    Calls Tryz.prog 49 #[.string ⟨(itoa x).toArray⟩, .int .i64 (most : Int)] w fun e w' => e = .returned (.tuple #[.int .i64 0, .bool false]) ∧ w' = w := by
  have hs := str_size (itoa x)
  go_enter Tryz.func49, Tryz.ntmps49
  go_wp2_with fail
  go_ret2
  exact ⟨rfl, rfl⟩

set_option maxHeartbeats 1000000 in
set_option maxRecDepth 100000 in
theorem of_n (x : Int) (h0 : -9223372036854775808 ≤ x) (h1 : x ≤ 9223372036854775807) (w : World) (htab : TabIs Tryz.prog w "internal/strconv.uint64pow10" .u64 pow10Tab) :
    Calls Tryz.prog 50 #[.int .i64 x] w fun e w' => e = .returned (.string ⟨(itoa x).toArray⟩) ∧ Below w.heap.size w w' := by
  have hA := Lib.hid (Tryz.strconv_Itoa x h0 h1 w htab)
  go_enter Tryz.func50, Tryz.ntmps50
  go_wp2_with (first
    | (go_at_call 52; refine hA.out.mono ?_; rintro e w' ⟨rfl, hw⟩; have HB := below_grown hw))
  go_ret
  exact ⟨rfl, HB⟩

end Go.Proofs.YtpjknkembghjcaaGreatDoor

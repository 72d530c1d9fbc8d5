/- integer.Small; the reference's Of. -/
import Derived.Test.YtpmkhichoepdnaaDoorQuick
set_option linter.unusedVariables false
set_option linter.unusedSimpArgs false
namespace Go.Proofs.YtpmkhichoepdnaaDoor
open Go.RowKit Go.Lib Go.Proofs.YtpmkhichoepdnaaDoor.Dec Go.Proofs.YtpmkhichoepdnaaDoor.Mag Go.Proofs.YtpmkhichoepdnaaDoor.Chunk

set_option maxHeartbeats 1000000 in
set_option maxRecDepth 100000 in
theorem small_yes (x : Int) (h0 : -9223372036854775808 ≤ x) (h1 : x < 9223372036854775808) (w : World) (hl : (itoa x).length ≤ 100000000) :
    Calls Tryd.prog 15 #[.string ⟨(itoa x).toArray⟩] w fun e w' => e = .returned (.tuple #[.int .i64 x, .bool true]) ∧ Below w.heap.size w w' := by
  have hA := Lib.hid (Tryd.strconv_ParseInt_10_at64_ok ⟨(itoa x).toArray⟩ (by rw [str_size]; omega) x (by simpa using parse_itoa h0 h1) w)
  clear h0 h1
  go_enter Tryd.func15, Tryd.ntmps15
  go_wp2_with (first
    | (go_at_call 43; refine hA.out.mono ?_; rintro e w1 ⟨rfl, hw⟩; have HB := below_ways hw; clear hw))
  go_ret2
  exact ⟨rfl, HB⟩

set_option maxHeartbeats 1000000 in
set_option maxRecDepth 100000 in
theorem small_no (x : Int) (h : ¬ (-9223372036854775808 ≤ x ∧ x < 9223372036854775808)) (w : World) (hl : (itoa x).length ≤ 100000000) (tp : TypeId) (p : Value) (hv : w.var? Tryd.prog "strconv.ErrRange" = some #[.iface tp p]) :
    Calls Tryd.prog 15 #[.string ⟨(itoa x).toArray⟩] w fun e w' => e = .returned (.tuple #[.int .i64 0, .bool false]) ∧ Below w.heap.size w w' := by
  have hA := Lib.hid (Tryd.strconv_ParseInt_10_at64_range_var ⟨(itoa x).toArray⟩ (by rw [str_size]; omega) (by simpa using parse_itoa_range h) tp p w hv)
  clear h
  go_enter Tryd.func15, Tryd.ntmps15
  go_wp2_with (first
    | (go_at_call 43; refine hA.out.mono ?_; rintro e w1 ⟨N, rfl, hN, hc, HB⟩; clear hc))
  go_ret2
  exact ⟨rfl, HB⟩

set_option maxHeartbeats 1000000 in
theorem ref_of_n (x : Int) (h0 : -9223372036854775808 ≤ x) (h1 : x ≤ 9223372036854775807) (w : World) (htab : TabIs Tryd.prog w "internal/strconv.uint64pow10" .u64 pow10Tab) :
    Calls Tryd.prog 20 #[.int .i64 x] w fun e w' => e = .returned (.string ⟨(itoa x).toArray⟩) ∧ Below w.heap.size w w' := by
  have hA := Lib.hid (Tryd.strconv_Itoa x h0 h1 w htab)
  clear h0 h1
  go_enter Tryd.func20, Tryd.ntmps20
  go_wp2_with (first
    | (go_at_call 45; refine hA.out.mono ?_; rintro e w' ⟨rfl, hw⟩; have HB := below_grown hw))
  go_ret
  exact ⟨rfl, HB⟩
theorem itoa_int_len {x : Int} (h0 : -9223372036854775808 ≤ x) (h1 : x ≤ 9223372036854775807) : (itoa x).length ≤ 20 := by
  have h2 := dec_len_le (u := x.natAbs) (k := 19) (by decide) (by omega)
  rw [itoa]
  split
  · rw [List.length_cons]; omega
  · rw [show x.toNat = x.natAbs by omega]; omega

end Go.Proofs.YtpmkhichoepdnaaDoor

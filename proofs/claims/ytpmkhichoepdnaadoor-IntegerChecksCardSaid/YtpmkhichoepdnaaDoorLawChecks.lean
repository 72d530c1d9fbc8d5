/- IntegerChecks: the law's walk. -/
import Derived.Test.YtpmkhichoepdnaaDoorKnown
import Derived.Test.YtpmkhichoepdnaaDoorCheck
import Derived.Test.YtpmkhichoepdnaaDoorSmallInt
set_option linter.unusedVariables false
set_option linter.unusedSimpArgs false
namespace Go.Proofs.YtpmkhichoepdnaaDoor
open Go.RowKit Go.Lib Go.Proofs.YtpmkhichoepdnaaDoor.Dec Go.Proofs.YtpmkhichoepdnaaDoor.Mag Go.Proofs.YtpmkhichoepdnaaDoor.Chunk

set_option maxHeartbeats 1000000 in
set_option maxRecDepth 100000 in
theorem law_checks (l : List UInt8) (n : Int) (w : World) (n0 : -9223372036854775808 ≤ n) (n1 : n ≤ 9223372036854775807) (htab : TabIs Tryd.prog w "internal/strconv.uint64pow10" .u64 pow10Tab) :
    Calls Tryd.prog 6 #[.string ⟨l.toArray⟩, .int .i64 n] w fun e w' => e = .returned (.bool true) ∧ Below w.heap.size w w' := by
  have hsz := str_size l
  have hk := Lib.hid (known_n w htab)
  by_cases hl : l.length ≤ 220
  · have hl' : ¬ (220 : Int) < (l.length : Int) := by omega
    have hR := Lib.hid (fun w => right_n l w (by omega))
    have hC := Lib.hid (fun w => check_n l w (by omega))
    have hO := Lib.hid (fun w ht => of_n n n0 n1 w ht)
    have hO2 := Lib.hid (fun w ht => ref_of_n n n0 n1 w ht)
    have hS := Lib.hid (fun w => small_yes n n0 (by omega) w (Nat.le_trans (itoa_int_len n0 n1) (by decide)))
    clear n0 n1
    cases hrb : rightB l
    all_goals
      rw [hrb] at hR hC
      simp only [if_true, if_false, Bool.false_eq_true] at hC
      clear hrb
      go_enter Tryd.func6, Tryd.ntmps6
      go_wp2_with (first
        | (go_at_call 9; refine hk.out.mono ?_; rintro e w1 ⟨rfl, h1⟩)
        | (go_at_call 17; refine (hR.out _).mono ?_; rintro e w2 ⟨rfl, h2⟩; have b2 := h1.trans (h2.mono h1.size); refine Hid.out ?_))
      refine Lib.hid ?_
      go_wp2_with (first
        | (go_at_call 18; refine (hO.out _ (tab_below htab b2)).mono ?_; rintro e w3 ⟨rfl, h3⟩; have b3 := b2.trans (h3.mono b2.size); refine Hid.out ?_))
      refine Lib.hid ?_
      go_wp2_with (first
        | (go_at_call 15; refine (hS.out _).mono ?_; rintro e w4 ⟨rfl, h4⟩; have b4 := b3.trans (h4.mono b3.size))
        | (go_at_call 19; refine (hC.out _).mono ?_; rintro e w5 ⟨rfl, rfl⟩; refine Hid.out ?_))
      refine Lib.hid ?_
      go_wp2_with (first
        | (go_at_call 18; refine (hO.out _ (tab_below htab b4)).mono ?_; rintro e w6 ⟨rfl, h6⟩; have b6 := b4.trans (h6.mono b4.size))
        | (go_at_call 20; refine (hO2.out _ (tab_below htab b6)).mono ?_; rintro e w7 ⟨rfl, h7⟩; have b7 := b6.trans (h7.mono b6.size)))
      go_ret
      exact ⟨rfl, b7⟩
  · have hl' : (220 : Int) < (l.length : Int) := by omega
    go_enter Tryd.func6, Tryd.ntmps6
    go_wp2_with (first
      | (go_at_call 9; refine hk.out.mono ?_; rintro e w1 ⟨rfl, h1⟩; refine Hid.out ?_))
    refine Lib.hid ?_
    have hk1 := Lib.hid (known_n w1 (tab_below htab h1))
    go_wp2_with (first
      | (go_at_call 9; refine hk1.out.mono ?_; rintro e w2 ⟨rfl, h2⟩))
    go_ret
    exact ⟨rfl, h1.trans (h2.mono h1.size)⟩

end Go.Proofs.YtpmkhichoepdnaaDoor

/- IntegerParses: the law's walk. -/
import Derived.Test.YtpmkhichoepdnaaDoorKnown
import Derived.Test.YtpmkhichoepdnaaDoorRefParse
set_option linter.unusedVariables false
set_option linter.unusedSimpArgs false
namespace Go.Proofs.YtpmkhichoepdnaaDoor
open Go.RowKit Go.Lib Go.Proofs.YtpmkhichoepdnaaDoor.Dec Go.Proofs.YtpmkhichoepdnaaDoor.Mag Go.Proofs.YtpmkhichoepdnaaDoor.Chunk

set_option maxHeartbeats 1000000 in
set_option maxRecDepth 100000 in
theorem law_parses (l : List UInt8) (w : World) (htab : TabIs Tryd.prog w "internal/strconv.uint64pow10" .u64 pow10Tab) :
    Calls Tryd.prog 3 #[.string ⟨l.toArray⟩] w fun e w' => e = .returned (.bool true) ∧ Below w.heap.size w w' := by
  have hsz := str_size l
  have hk := Lib.hid (known_n w htab)
  by_cases hl : l.length ≤ 220
  · have hl' : ¬ (220 : Int) < (l.length : Int) := by omega
    go_enter Tryd.func3, Tryd.ntmps3
    go_wp2_with (first
      | (go_at_call 9; refine hk.out.mono ?_; rintro e w1 ⟨rfl, h1⟩)
      | (go_at_call 10; refine (parse_n l _ (by omega)).mono ?_; rintro e w2 ⟨rfl, h2⟩; generalize hP : (parseOut l).1 = P; generalize hE : (parseOut l).2 = E; have HP := Lib.hid hP; have HE := Lib.hid hE; clear hP hE)
      | (go_at_call 11; refine (ref_parse_n l _ (by omega)).mono ?_; rintro e w3 ⟨rfl, h3⟩; rw [HP.out, HE.out]))
    go_ret
    exact ⟨rfl, (h1.trans (h2.mono h1.size)).trans (h3.mono (h1.trans (h2.mono h1.size)).size)⟩
  · have hl' : (220 : Int) < (l.length : Int) := by omega
    go_enter Tryd.func3, Tryd.ntmps3
    go_wp2_with (first
      | (go_at_call 9; refine hk.out.mono ?_; rintro e w1 ⟨rfl, h1⟩; refine Hid.out ?_))
    refine Lib.hid ?_
    have hk1 := Lib.hid (known_n w1 (tab_below htab h1))
    go_wp2_with (first
      | (go_at_call 9; refine hk1.out.mono ?_; rintro e w2 ⟨rfl, h2⟩))
    go_ret
    exact ⟨rfl, h1.trans (h2.mono h1.size)⟩

end Go.Proofs.YtpmkhichoepdnaaDoor

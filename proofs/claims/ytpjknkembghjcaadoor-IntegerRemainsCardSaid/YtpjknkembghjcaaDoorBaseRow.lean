/- What all rows of this seat share: what the listed variables give the walks. -/
import Derived.Test.YtpjknkembghjcaaDoorTie
import Derived.Test.YtpjknkembghjcaaDoorKnown
import Derived.ProofKit
import Derived.OpenShut
import Derived.LaidMore
import Derived.Lay
import Derived.LaidSub
import Derived.SevenTiedAt
import Derived.Stop.Joined
import Derived.ChangeMaps5
import Derived.Lib.LaidTab
set_option linter.unusedVariables false
namespace Go.Proofs.YtpjknkembghjcaaDoor
open Go.ChangeShapes Go.WideShapes Go.ChangeAt Go.RowKit

theorem own : ownKnob Tryd.prog.godebug = none := by kernel_rfl
theorem c72 : Tryd.prog.cellsOf 72 = 1 := by kernel_rfl
theorem laid_pow (W : World) (h : laidMetH Tryd.prog Rows.integerParsesRow.laid W) : Lib.TabIs Tryd.prog W "internal/strconv.uint64pow10" .u64 Lib.pow10Tab := by
  rw [MakeChecks.laidMetH_plain _ _ _ (by kernel_rfl)] at h
  have h1 := h.filter (fun x => x.1 == "internal/strconv.uint64pow10")
  have e : Rows.integerParsesRow.laid.filter (fun x => x.1 == "internal/strconv.uint64pow10") = [("internal/strconv.uint64pow10", Lib.tabData .u64 Lib.pow10Tab)] := by kernel_rfl
  rw [e] at h1
  exact Lib.tabIs_of_head (g := 5) (t := 136) (e := 72) (n := 20) (by kernel_rfl) (by kernel_rfl) Tryd.underlying136 Tryd.underlying72 c72 (by kernel_rfl) h1

end Go.Proofs.YtpjknkembghjcaaDoor

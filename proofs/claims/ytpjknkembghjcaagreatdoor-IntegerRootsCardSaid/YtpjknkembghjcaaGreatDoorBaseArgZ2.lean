/- What rows over descriptions share: a description opened; the variable ErrRange. -/
import Derived.Test.YtpjknkembghjcaaGreatDoorTie
import Derived.Test.YtpjknkembghjcaaGreatDoorKnown
import Derived.ProofKit
import Derived.OpenShut
import Derived.LaidMore
import Derived.Lay
import Derived.LaidSub
import Derived.SevenTiedAt
import Derived.Stop.Joined
import Derived.ChangeMaps5
import Derived.Lib.LaidTab
import Derived.Test.YtpjknkembghjcaaGreatDoorMake
import Derived.Lib.SmallJoins
import Derived.ChangeSlices
import Derived.LaidLaws
import Derived.Carry
set_option linter.unusedVariables false
namespace Go.Proofs.YtpjknkembghjcaaGreatDoor
open Go.ChangeShapes Go.WideShapes Go.ChangeAt Go.RowKit

theorem own : ownKnob Tryz.prog.godebug = none := by kernel_rfl
theorem c72 : Tryz.prog.cellsOf 56 = 1 := by kernel_rfl
theorem laid_pow (W : World) (h : laidMetH Tryz.prog Rows.integerSumsRow.laid W) : Lib.TabIs Tryz.prog W "internal/strconv.uint64pow10" .u64 Lib.pow10Tab := by
  rw [MakeChecks.laidMetH_plain _ _ _ (by kernel_rfl)] at h
  have h1 := h.filter (fun x => x.1 == "internal/strconv.uint64pow10")
  have e : Rows.integerSumsRow.laid.filter (fun x => x.1 == "internal/strconv.uint64pow10") = [("internal/strconv.uint64pow10", Lib.tabData .u64 Lib.pow10Tab)] := by kernel_rfl
  rw [e] at h1
  exact Lib.tabIs_of_head (g := 3) (t := 139) (e := 56) (n := 20) (by kernel_rfl) (by kernel_rfl) Tryz.underlying139 Tryz.underlying56 c72 (by kernel_rfl) h1

end Go.Proofs.YtpjknkembghjcaaGreatDoor

set_option linter.unusedVariables false
namespace Go.Proofs.YtpjknkembghjcaaGreatDoor
open Go.ChangeShapes Go.WideShapes Go.ChangeAt Go.RowKit Go.ChangeMaps Go.Lib

theorem laidOut : laidOutB Tryz.prog = true := by kernel_rfl
theorem cells_u8 : Tryz.prog.cellsOf 5 = 1 := by kernel_rfl
theorem laid_range (W : World) (h : laidMetH Tryz.prog Rows.integerSumsRow.laid W) : ∃ tp p, W.var? Tryz.prog "strconv.ErrRange" = some #[.iface tp p] := by
  rw [MakeChecks.laidMetH_plain _ _ _ (by kernel_rfl)] at h
  have h1 := h.filter (fun x => x.1 == "strconv.ErrRange")
  have e : Rows.integerSumsRow.laid.filter (fun x => x.1 == "strconv.ErrRange") = [("strconv.ErrRange", Rows.laid_strconv_ErrRange)] := by kernel_rfl
  rw [e] at h1
  obtain ⟨ps, ⟨g, t, cs, fuel, p, q, hg, ht, hv, hd, _, _⟩, _⟩ := h1
  obtain rfl := Option.some.inj ((show Tryz.prog.globalNamed "strconv.ErrRange" = some 2 by kernel_rfl).symm.trans hg)
  obtain rfl := Option.some.inj ((show (Tryz.prog.globals[2]?).map (·.type) = some 81 by kernel_rfl).symm.trans ht)
  obtain ⟨_, u, v, hc, _⟩ := iface_of_trod Tryz.underlying81 hd
  refine ⟨u, v, ?_⟩
  rw [hv, Array.eq_one_of_toList hc]

set_option maxRecDepth 100000 in
theorem open_written {H : Type} {enc : TypeId × Value → H} {W : World} {base : Nat} {v : Value} {d : DataW H} {p : List MemPlace}
    (hval : Value.okWide Tryz.prog W .any base 24 v) (h : DataW.Trod enc Tryz.prog W 0 (fun _ => true) true 24 v d p) :
    ∃ minus A cap ds, v = .agg #[.bool minus, .slice A (List.length ds) cap] ∧ RdB W A ds ∧ ∀ k, k < ds.length → 0 ≤ ds.getD k 0 ∧ ds.getD k 0 < 256 := by
  obtain ⟨v0, v1, y0, y1, n, rfl, rfl, rfl, h0, h1⟩ := Go.Joins.open_agg2 Tryz.underlying24 (by kernel_rfl) (by kernel_rfl) hval h
  obtain ⟨b, hb, _⟩ := DataW.trod_bool Tryz.underlying4 h0
  obtain rfl : v0 = .bool b := by simpa using hb
  rcases open_ints Tryz.underlying22 Tryz.underlying5 cells_u8 h1 with ⟨hcs, _⟩ | ⟨a, len, cap, zs, hcs, _, hl, hm, hz, _, hcell, hw⟩
  · obtain rfl : v1 = .slice none 0 0 := by simpa using hcs
    exact ⟨b, none, 0, [], rfl, ⟨by simp, fun h => absurd h (by simp)⟩, fun k hk => absurd hk (by simp)⟩
  · obtain rfl : v1 = .slice (some a) len cap := by simpa using hcs
    have hlz : zs.length = cap := by simpa using hz
    have hlen : (zs.take len).length = len := by rw [List.length_take]; omega
    have hget : ∀ j, j < len → (zs.take len).getD j 0 = zs.getD j 0 := fun j hj => by
      rw [List.getD_eq_getElem?_getD, List.getElem?_take, if_pos hj, List.getD_eq_getElem?_getD]
    refine ⟨b, some a, cap, zs.take len, by rw [hlen], ⟨by rw [hlen]; omega, fun h0 => ?_⟩, fun k hk => ?_⟩
    · rw [hlen] at h0
      obtain ⟨bl, off, spot⟩ := a
      have hc0 := hcell 0 (by omega)
      have hsp : spot = none := by
        cases spot with
        | none => rfl
        | some s =>
          simp only [Addr.add, if_true, World.cell?] at hc0
          split at hc0 <;> simp at hc0
      subst hsp
      refine ⟨bl, off, rfl, ?_, fun j hj => ?_⟩
      · rcases Nat.lt_or_ge bl W.heap.size with h' | h'
        · exact h'
        · simp [Addr.add, World.cell?, Array.getElem?_eq_none h'] at hc0
      · rw [hlen] at hj
        rw [hget j hj, ← hcell j (by omega), Lib.add_plain]
    · rw [hlen] at hk
      rw [hget k hk]
      have hmem : zs.getD k 0 ∈ zs := by
        rw [List.getD_eq_getElem?_getD, List.getElem?_eq_getElem (show k < zs.length by omega)]
        exact List.getElem_mem _
      have hwf := hw _ hmem
      simp only [Lit.wf, Bool.and_eq_true, decide_eq_true_eq] at hwf
      exact ⟨Int.le_trans (by decide) hwf.1, Int.lt_of_le_of_lt hwf.2 (by decide)⟩

end Go.Proofs.YtpjknkembghjcaaGreatDoor

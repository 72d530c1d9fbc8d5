/- IntegerSmall: the law's walk. -/
import Derived.Test.YtpmkhichoepdnaaDoorKnown
import Derived.Test.YtpmkhichoepdnaaDoorMake
import Derived.Test.YtpmkhichoepdnaaDoorRefSmall
import Derived.Test.YtpmkhichoepdnaaDoorSmallInt
set_option linter.unusedVariables false
set_option linter.unusedSimpArgs false
namespace Go.Proofs.YtpmkhichoepdnaaDoor
open Go.RowKit Go.Lib Go.Proofs.YtpmkhichoepdnaaDoor.Dec Go.Proofs.YtpmkhichoepdnaaDoor.Mag Go.Proofs.YtpmkhichoepdnaaDoor.Chunk

theorem small_n (x : Int) (w : World) (hl : (itoa x).length ≤ 100000000) (tp : TypeId) (p : Value) (hv : w.var? Tryd.prog "strconv.ErrRange" = some #[.iface tp p]) :
    Calls Tryd.prog 15 #[.string ⟨(itoa x).toArray⟩] w fun e w' => e = .returned (.tuple #[.int .i64 (smallVal x), .bool (smallIs x)]) ∧ Below w.heap.size w w' := by
  by_cases h : -9223372036854775808 ≤ x ∧ x < 9223372036854775808
  · obtain ⟨e1, e2⟩ := small_in h
    rw [e1, e2]
    exact small_yes x h.1 h.2 w hl
  · obtain ⟨e1, e2⟩ := small_out h
    rw [e1, e2]
    exact small_no x h w hl tp p hv
theorem var_below {P : Program} {w W : World} {name : String} {cs : Array Value} (h : w.var? P name = some cs) (hb : Below w.heap.size w W) : W.var? P name = some cs := by
  unfold World.var? at *
  cases hg : P.globalNamed name with
  | none => simp [hg] at h
  | some g =>
    simp only [hg, Option.bind_some] at h ⊢
    have hlt : g < w.heap.size := by
      rcases Nat.lt_or_ge g w.heap.size with h' | h'
      · exact h'
      · rw [Array.getElem?_eq_none h'] at h; simp at h
    rw [hb.block g hlt]
    exact h

set_option maxHeartbeats 1000000 in
set_option maxRecDepth 100000 in
theorem law_small (minus : Bool) (A : Option Addr) (ca : Nat) (ds : List Int) (w : World) (hr : RdB w A ds) (hb : ∀ k, k < ds.length → 0 ≤ ds.getD k 0 ∧ ds.getD k 0 < 256) (htab : TabIs Tryd.prog w "internal/strconv.uint64pow10" .u64 pow10Tab)
    (tp : TypeId) (p : Value) (hv : w.var? Tryd.prog "strconv.ErrRange" = some #[.iface tp p]) :
    Calls Tryd.prog 5 #[.agg #[.bool minus, .slice A ds.length ca]] w fun e w' => e = .returned (.bool true) ∧ Below w.heap.size w w' := by
  have hM := Lib.hid (fun w hr => make_n minus A ca ds 24 w hr hb (by decide))
  have hlen := makeVal_len minus ds 24 (by decide)
  generalize makeVal minus ds 24 = x at *
  have hS := Lib.hid (fun w hv => small_n x w (by omega) tp p hv)
  have hR := Lib.hid (fun w => ref_small_n x w (by omega))
  generalize smallVal x = n at *
  generalize smallIs x = is at *
  go_enter Tryd.func5, Tryd.ntmps5
  go_wp2_with fail
  have h0 : Below w.heap.size w (w.alloc (.cells #[.bool minus, .slice A ds.length ca] 30)) := (Below.refl _ _).alloc (Nat.le_refl _) _
  refine (known_n _ (tab_below htab h0)).mono ?_
  rintro e w1 ⟨rfl, h1⟩
  have b1 := h0.trans (h1.mono h0.size)
  have c0 : w1.cell? ⟨w.heap.size, 0, none⟩ = some (.bool minus) := by rw [h1.cell (p := ⟨w.heap.size, 0, none⟩) (by simp)]; simp
  have c1 : w1.cell? ⟨w.heap.size, 1, none⟩ = some (.slice A ds.length ca) := by rw [h1.cell (p := ⟨w.heap.size, 1, none⟩) (by simp)]; simp
  have hr1 := Lib.hid (hr.below b1)
  clear h0 h1
  go_wp2_with (first
    | (go_at_call 12; refine (hM.out _ hr1.out).mono ?_; rintro e w2 ⟨rfl, h2⟩; have b2 := b1.trans (h2.mono b1.size))
    | (go_at_call 15; refine (hS.out _ (var_below hv b2)).mono ?_; rintro e w3 ⟨rfl, h3⟩; have b3 := b2.trans (h3.mono b2.size))
    | (go_at_call 16; refine (hR.out _).mono ?_; rintro e w4 ⟨rfl, h4⟩; have b4 := b3.trans (h4.mono b3.size)))
  go_ret
  exact ⟨by simp, b4⟩

end Go.Proofs.YtpmkhichoepdnaaDoor

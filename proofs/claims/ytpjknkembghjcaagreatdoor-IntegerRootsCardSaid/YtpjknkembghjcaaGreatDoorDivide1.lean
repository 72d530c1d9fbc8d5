/- integer.divide, where the dividend is less. -/
import Derived.Test.YtpjknkembghjcaaGreatDoorSmall
namespace Go.Proofs.YtpjknkembghjcaaGreatDoor
open Go.RowKit Mag

set_option maxHeartbeats 1000000 in
set_option maxRecDepth 100000 in
theorem divide_less (v v' : Value) (x y : Int) (w : World) (hx : Mg w v x) (hy : Mg w v' y) (hlt : x < y) :
    Calls Tryz.prog 37 #[v, v'] w fun e w' => ∃ q, e = .returned (.tuple #[q, v]) ∧ MgN w.heap.size w' q 0 ∧ Below w.heap.size w w' := by
  have HO := Lib.hid (cmpI_lt hlt)
  have hb : Below w.heap.size w ((w.alloc (.cells #[v'] 49)).alloc (.cells #[.slice none 0 0] 49)) := ((Below.refl _ _).alloc (Nat.le_refl _) _).alloc (by simp) _
  have HX := Lib.hid (hx.below (Nat.le_refl _) hb)
  have HY := Lib.hid (hy.below (Nat.le_refl _) hb)
  obtain ⟨a, n, c, xs, rfl, hrest⟩ := hx
  obtain ⟨a', n', c', ys, rfl, hrest'⟩ := hy
  clear hrest hrest' hlt
  go_enter Tryz.func37, Tryz.ntmps37
  go_wp2_with fail
  refine (order_mg _ _ x y _ HX.out HY.out).mono ?_
  rintro e w' ⟨rfl, k, rfl⟩
  rw [HO.out]
  go_wp2
  refine bodyPost_ret (v := .tuple #[.slice none 0 0, .slice a n c]) (by simp [results, Tryz.results37, go_sem]) rfl ⟨_, rfl, MgN.nil _ _, ?_⟩
  exact (below_drewN hb k).setCell (p := ⟨w.heap.size + 1, 0, none⟩) (by show w.heap.size ≤ w.heap.size + 1; omega) _

end Go.Proofs.YtpjknkembghjcaaGreatDoor

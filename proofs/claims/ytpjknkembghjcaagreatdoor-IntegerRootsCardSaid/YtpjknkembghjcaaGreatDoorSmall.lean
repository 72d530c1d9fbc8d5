/- integer.small: a magnitude times a piece. -/
import Derived.Test.YtpjknkembghjcaaGreatDoorTimes
import Derived.Test.YtpjknkembghjcaaGreatDoorOrder
namespace Go.Proofs.YtpjknkembghjcaaGreatDoor
open Go.RowKit Mag

/-- A literal slice of one piece. -/
theorem Rd.lit1 (w : World) (e : TypeId) (k : IntKind) (d : Int) : Rd (w.alloc (.cells #[.int k d] e)) k (some ⟨w.heap.size, 0, none⟩) [d] := by
  refine ⟨by simp, fun _ => ⟨_, _, rfl, by simp, fun j hj => ?_⟩⟩
  have hj0 : j = 0 := by simpa using hj
  subst hj0
  rw [World.cell?_alloc_at _ _ _ _ rfl]; rfl
theorem pcs1 {d : Int} (h0 : 0 ≤ d) (h1 : d < 1000000000) : Pcs 1000000000 [d] := Pcs.cons ⟨h0, h1⟩ Pcs.nil

set_option maxRecDepth 100000 in
theorem small_mg (v : Value) (x d : Int) (w : World) (hx : Mg w v x) (bx : x < LIM) (d0 : 0 ≤ d) (d1 : d < 1000000000) :
    Calls Tryz.prog 65 #[v, .int .u64 d] w fun e w' => ∃ u, e = .returned u ∧ MgN w.heap.size w' u (x * d) ∧ Below w.heap.size w w' := by
  have hb : Below w.heap.size w (w.alloc (.cells #[.int .u64 d] 56)) := (Below.refl _ _).alloc (Nat.le_refl _) _
  have hx' := hx.below (Nat.le_refl _) hb
  obtain ⟨a, n, c, xs, rfl, hrest⟩ := hx
  clear hrest
  go_enter Tryz.func65, Tryz.ntmps65
  go_wp2_with fail
  refine (trim_n _ 1 1 [d] _ (Rd.lit1 w _ _ d) rfl (by omega)).mono ?_
  rintro e w' ⟨⟨m, hm, rfl, htr, hpv⟩, rfl⟩
  have HT := Lib.hid (Mg.of_trim (cap := 1) (Rd.lit1 w 56 .u64 d) (pcs1 d0 d1) hm (by simp) htr (hpv _) (pv_one _ d))
  clear htr hpv hm
  go_wp2_with fail
  refine (times_mg _ _ x d _ hx' HT.out bx (lim_of_small (by omega))).mono ?_
  rintro e w' ⟨u, rfl, hu, hbl⟩
  have HU := Lib.hid (hu.mono (show w.heap.size ≤ _ by simp))
  have HB := Lib.hid (hb.trans (hbl.mono (by simp)))
  clear hu hbl
  go_wp2
  go_ret
  exact ⟨u, rfl, HU.out, HB.out⟩

end Go.Proofs.YtpjknkembghjcaaGreatDoor

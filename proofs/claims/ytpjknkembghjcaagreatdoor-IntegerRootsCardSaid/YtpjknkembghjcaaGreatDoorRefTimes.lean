/- The reference's times. -/
import Derived.Test.YtpjknkembghjcaaGreatDoorRefCarry
import Derived.Test.YtpjknkembghjcaaGreatDoorTimes
import Derived.RegionTactic
import Derived.BigRegion
set_option linter.unusedVariables false
set_option linter.unusedSimpArgs false
namespace Go.Proofs.YtpjknkembghjcaaGreatDoor
open Go.RowKit Go.Lib Go.Proofs.YtpjknkembghjcaaGreatDoor.Dec Go.Proofs.YtpjknkembghjcaaGreatDoor.Mag Go.Proofs.YtpjknkembghjcaaGreatDoor.Chunk

/-- The row that times fills. -/
def TRowI (w wr : World) (n : Nat) (os : List Int) : Prop :=
  wr.ownsRow w.heap.size 3 1 (.slice (some ⟨w.heap.size, 0, none⟩) n n) n (os.map (Value.int .i64)) ∧ os.length = n ∧ Below w.heap.size w wr
theorem TRowI.cell {w wr : World} {n : Nat} {os : List Int} (h : TRowI w wr n os) (j : Nat) (hj : j < n) : wr.cell? ⟨w.heap.size, j, none⟩ = some (.int .i64 (os.getD j 0)) := by
  obtain ⟨h1, h2, h4⟩ := h
  rw [h1.cellAt j (by omega), List.getElem?_map, List.getD_eq_getElem?_getD, List.getElem?_eq_getElem (by omega)]; rfl
theorem TRowI.free {w wr : World} {n : Nat} {os : List Int} (h : TRowI w wr n os) (j : Nat) : wr.frozen? ⟨w.heap.size, j, none⟩ = false := h.1.frozenAt j
theorem TRowI.store {w wr : World} {n : Nat} {os : List Int} (h : TRowI w wr n os) (j : Nat) (x : Int) : TRowI w (wr.setCell ⟨w.heap.size, j, none⟩ (.int .i64 x)) n (os.set j x) := by
  obtain ⟨h1, h2, h4⟩ := h
  exact ⟨by rw [List.map_set]; exact (h1.stored j _).1, by simp [h2], h4.setCell (Nat.le_refl _) _⟩
theorem TRowI.drew {w wr : World} {n : Nat} {os : List Int} (h : TRowI w wr n os) : TRowI w wr.drew n os := ⟨h.1, h.2.1, h.2.2.drew⟩

theorem times_add {x y o T : Int} {os ys : List Int} {k j : Nat} (hi : k + j < os.length) (h : pv 10000 os = T + x * 10000 ^ k * pv 10000 (ys.take j)) (ho : os.getD (k + j) 0 = o) (hy : ys.getD j 0 = y) :
    pv 10000 (os.set (k + j) (o + x * y)) = T + x * 10000 ^ k * pv 10000 (ys.take (j + 1)) := by
  rw [pv_set _ _ _ _ hi, h, ho, pv_take_any, hy, Int.pow_add]
  grind
theorem getD_set_any (l : List Int) (i j : Nat) (x : Int) : (l.set i x).getD j 0 = l.getD j 0 ∨ (j = i ∧ (l.set i x).getD j 0 = x) := by
  by_cases h : i = j
  · subst h
    by_cases hl : i < l.length
    · right; exact ⟨rfl, by simp [List.getD_eq_getElem?_getD, hl]⟩
    · left; rw [List.set_eq_of_length_le (by omega)]
  · left; exact getD_set_other h

set_option maxHeartbeats 2000000 in
set_option maxRecDepth 100000 in
theorem ref_times_any (A A' : Option Addr) (ca cb : Nat) (xs ys : List Int) (w : World) (hx : Rd w .i64 A xs) (hy : Rd w .i64 A' ys) (hn : xs.length ≤ 100000) (hm : ys.length ≤ 100000)
    (px : Pcs 10000 xs) (py : Pcs 10000 ys) :
    Calls Tryz.prog 48 #[.slice A xs.length ca, .slice A' ys.length cb] w fun e w' => ∃ v, e = .returned v ∧ MgI w' v (pv 10000 xs * pv 10000 ys) ∧ Below w.heap.size w w' := by
  obtain ⟨i0, hi, hz0, hz1, hz2⟩ := info_parts info_i64
  go_enter Tryz.func48, Tryz.ntmps48
  go_wp2_with (at_make; refine wpList_make_full _ rfl _ _ 62 rfl w.heap.size 3 i0 (.int .i64 0) 1 Tryz.underlying62 hi hz0 hz1 _ _ _ _ (xs.length + ys.length) rfl rfl (by omega) (by omega) (by rw [hz2]; omega) (by unfold maxLen; omega) (Nat.le_refl _) ?_; intro w1 hown1 hgrow1)
  have hnx1 : Below w.heap.size w w1 := (Below.refl _ _).grown hgrow1 (Nat.le_refl _) (fun k e => by cases e)
  have hT1 : TRowI w w1 (xs.length + ys.length) (List.replicate (xs.length + ys.length) 0) := ⟨by
    simpa [toList_madeCells_one, Value.cells] using hown1, by simp, hnx1⟩
  clear hown1 hgrow1 hnx1
  go_loopw [6] (fun i wr => ∃ (k : Nat) (os : List Int), k ≤ xs.length ∧ i = .int .i64 k ∧ TRowI w wr (xs.length + ys.length) os ∧
      Hid (pv 10000 os = pv 10000 (xs.take k) * pv 10000 ys) ∧ Hid (∀ j, 0 ≤ os.getD j 0 ∧ os.getD j 0 ≤ k * 100000000)) (fun i _ => xs.length - (intOf i).toNat)
  case atStart => exact ⟨0, _, Nat.zero_le _, rfl, hT1, Lib.hid (by rw [pv_zeros]; simp [pv]), Lib.hid (fun j => by rw [getD_reps]; exact ⟨Int.le_refl _, by omega⟩)⟩
  case round =>
    obtain ⟨k, os, hk, rfl, hT, HV, HZ⟩ := hrel
    obtain ⟨wo, rfl⟩ : ∃ wo : World, wo = wr := ⟨_, rfl⟩
    by_cases hlt : k < xs.length
    · obtain ⟨b, off, rfl, hbw, hc⟩ := hx.2 (by omega)
      have HCX := Lib.hid (hc k hlt)
      have x1 := px.at (by omega) k
      clear hc
      generalize gx : xs.getD k 0 = x at HCX x1
      have GX := Lib.hid gx
      clear gx
      obtain ⟨x0, x1⟩ := x1
      go_wp2
      go_loopw [7] (fun j wr => ∃ (q : Nat) (os : List Int), q ≤ ys.length ∧ j = .int .i64 q ∧ TRowI w wr (xs.length + ys.length) os ∧
          Hid (pv 10000 os = pv 10000 (xs.take k) * pv 10000 ys + x * 10000 ^ k * pv 10000 (ys.take q)) ∧ Hid (∀ j, 0 ≤ os.getD j 0 ∧ os.getD j 0 ≤ (k + 1) * 100000000) ∧ Hid (∀ j, k + q ≤ j → os.getD j 0 ≤ k * 100000000)) (fun j _ => ys.length - (intOf j).toNat)
      case atStart => exact ⟨0, os, Nat.zero_le _, rfl, hT, Lib.hid (by rw [HV.out]; simp [pv]), Lib.hid (fun j => by have := HZ.out j; omega), Lib.hid (fun j _ => (HZ.out j).2)⟩
      case round =>
        clear hT HV HZ
        obtain ⟨q, os, hq, rfl, hT, HV, HZ, HY⟩ := hrel
        obtain ⟨wi, rfl⟩ : ∃ wi : World, wi = wr := ⟨_, rfl⟩
        by_cases hlq : q < ys.length
        · obtain ⟨b', off', rfl, hbw', hc'⟩ := hy.2 (by omega)
          have c1 := (hT.2.2.cell (p := ⟨b, off + k, none⟩) hbw).trans HCX.out
          have c2 := (hT.2.2.cell (p := ⟨b', off' + q, none⟩) hbw').trans (hc' q hlq)
          have y1 := py.at (by omega) q
          clear hc'
          generalize gy : ys.getD q 0 = y at c2 y1
          have GY := Lib.hid gy
          clear gy
          obtain ⟨y0, y1⟩ := y1
          have c3 := hT.cell (k + q) (by omega)
          have f3 := hT.free (k + q)
          have o1 := HZ.out (k + q)
          have o2 := HY.out (k + q) (Nat.le_refl _)
          generalize go : os.getD (k + q) 0 = o at c3 o1 o2
          have GO := Lib.hid go
          clear go
          obtain ⟨o0, o1⟩ := o1
          obtain ⟨m0, m1⟩ := mul_bounds x0 (show x ≤ 9999 by omega) y0 (show y ≤ 9999 by omega)
          have HV2 := Lib.hid (times_add (by have := hT.2.1; omega) HV.out GO.out GY.out)
          have HZ2 := Lib.hid (show ∀ j, 0 ≤ (os.set (k + q) (o + x * y)).getD j 0 ∧ (os.set (k + q) (o + x * y)).getD j 0 ≤ (k + 1) * 100000000 from fun j => by
            rcases getD_set_any os (k + q) j (o + x * y) with h | ⟨_, h⟩
            · rw [h]; exact HZ.out j
            · rw [h]; constructor <;> omega)
          have HY2 := Lib.hid (show ∀ j, k + (q + 1) ≤ j → (os.set (k + q) (o + x * y)).getD j 0 ≤ k * 100000000 from fun j hj => by
            rw [getD_set_other (by omega)]; exact HY.out j (by omega))
          have HT2 := Lib.hid (hT.store (k + q) (o + x * y)).drew
          clear HV HZ HY hT GO GY
          go_wp2_with fail
          go_region
          all_goals
            go_wp2_with fail
            go_roundw
            case rel => exact ⟨q + 1, _, by omega, rfl, HT2.out, HV2, HZ2, HY2⟩
            case measure => simp [intOf]; omega
        · obtain rfl : q = ys.length := by omega
          have HV2 := Lib.hid (show pv 10000 os = pv 10000 (xs.take (k + 1)) * pv 10000 ys by
            have := HV.out
            rw [List.take_length] at this
            rw [this, pv_take_any, GX.out, Int.add_mul, Int.mul_comm x])
          have HZ2 := Lib.hid (show ∀ j, 0 ≤ os.getD j 0 ∧ os.getD j 0 ≤ ((k + 1 : Nat) : Int) * 100000000 from fun j => by have := HZ.out j; omega)
          clear HV HZ HY
          go_wp2
          go_roundw
          case rel => exact ⟨k + 1, os, by omega, rfl, hT, HV2, HZ2⟩
          case measure => simp [intOf]; omega
    · obtain rfl : k = xs.length := by omega
      have HL := Lib.hid hT.2.1
      have hnx := hT.2.2
      have hrd := Rd.of_owns hT.1 HL.out (by omega)
      rw [List.take_length] at HV
      clear hT
      have hC := carry_any (some ⟨w.heap.size, 0, none⟩) (xs.length + ys.length) os wo hrd (by have := HL.out; omega) (fun j => by have := HZ.out j; omega) (by rw [HV.out]; exact Int.mul_nonneg (pv_nonneg (by decide) px) (pv_nonneg (by decide) py))
      rw [HL.out, HV.out] at hC
      have HC := Lib.hid hC
      clear hC HV HZ hrd
      go_wp2_with fail
      refine HC.out.mono ?_
      rintro e w' ⟨v, rfl, hM, hb⟩
      go_wp2
      go_ret
      exact ⟨_, rfl, hM, hnx.trans (hb.mono hnx.size)⟩

/-- The reference's times on magnitudes. -/
theorem ref_times_n (v v' : Value) (x y : Int) (w : World) (hx : MgI w v x) (hy : MgI w v' y) (bx : x < 10000 ^ 100000) (bY : y < 10000 ^ 100000) :
    Calls Tryz.prog 48 #[v, v'] w fun e w' => ∃ u, e = .returned u ∧ MgI w' u (x * y) ∧ Below w.heap.size w w' := by
  obtain ⟨a, n, c, xs, rfl, rfl, hc, hr, hp, ht, rfl, _⟩ := hx
  obtain ⟨a', n', c', ys, rfl, rfl, hc', hr', hp', ht', rfl, _⟩ := hy
  exact ref_times_any a a' c c' xs ys w hr hr' (ht.len_le (by decide) hp bx) (ht'.len_le (by decide) hp' bY) hp hp'

end Go.Proofs.YtpjknkembghjcaaGreatDoor

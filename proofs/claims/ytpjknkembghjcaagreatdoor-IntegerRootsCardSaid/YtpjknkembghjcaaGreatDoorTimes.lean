/- integer.times: the product of magnitudes. -/
import Derived.Test.YtpjknkembghjcaaGreatDoorPlus
namespace Go.Proofs.YtpjknkembghjcaaGreatDoor
open Go.RowKit Mag

/-- The row that times fills. -/
def TRow (w wr : World) (n : Nat) (os : List Int) : Prop :=
  wr.ownsRow w.heap.size 56 1 (.slice (some ⟨w.heap.size, 0, none⟩) n n) n (os.map (Value.int .u64)) ∧ os.length = n ∧ Pcs 1000000000 os ∧ Below w.heap.size w wr

theorem TRow.cell {w wr : World} {n : Nat} {os : List Int} (h : TRow w wr n os) (j : Nat) (hj : j < n) : wr.cell? ⟨w.heap.size, j, none⟩ = some (.int .u64 (os.getD j 0)) := by
  obtain ⟨h1, h2, h3, h4⟩ := h
  rw [h1.cellAt j (by omega), List.getElem?_map, List.getD_eq_getElem?_getD, List.getElem?_eq_getElem (by omega)]; rfl
theorem TRow.free {w wr : World} {n : Nat} {os : List Int} (h : TRow w wr n os) (j : Nat) : wr.frozen? ⟨w.heap.size, j, none⟩ = false := h.1.frozenAt j
theorem TRow.store {w wr : World} {n : Nat} {os : List Int} (h : TRow w wr n os) (j : Nat) {x : Int} (hx : 0 ≤ x ∧ x < 1000000000) : TRow w (wr.setCell ⟨w.heap.size, j, none⟩ (.int .u64 x)) n (os.set j x) := by
  obtain ⟨h1, h2, h3, h4⟩ := h
  exact ⟨by rw [List.map_set]; exact (h1.stored j _).1, by simp [h2], h3.set j hx, h4.setCell (Nat.le_refl _) _⟩

set_option maxHeartbeats 2000000 in
set_option maxRecDepth 100000 in
theorem times_any (A A' : Option Addr) (ca cb : Nat) (xs ys : List Int) (w : World) (hx : Rd w .u64 A xs) (hy : Rd w .u64 A' ys) (hn : xs.length ≤ 1000000) (hm : ys.length ≤ 1000000)
    (px : Pcs 1000000000 xs) (py : Pcs 1000000000 ys) :
    Calls Tryz.prog 54 #[.slice A xs.length ca, .slice A' ys.length cb] w fun e w' => ∃ u, e = .returned u ∧ MgN w.heap.size w' u (pv 1000000000 xs * pv 1000000000 ys) ∧ Below w.heap.size w w' := by
  obtain ⟨i0, hi, hz0, hz1, hz2⟩ := info_parts info_u64
  go_enter Tryz.func54, Tryz.ntmps54
  go_wp2_with (at_make; refine wpList_make_full _ rfl _ _ 49 rfl w.heap.size 56 i0 (.int .u64 0) 1 Tryz.underlying49 hi hz0 hz1 _ _ _ _ (xs.length + ys.length + 1) rfl rfl (by omega) (by omega) (by rw [hz2]; omega) (by unfold maxLen; omega) (Nat.le_refl _) ?_; intro w1 hown1 hgrow1)
  have hnx1 : Below w.heap.size w w1 := (Below.refl _ _).grown hgrow1 (Nat.le_refl _) (fun k e => by cases e)
  have hT1 : TRow w w1 (xs.length + ys.length + 1) (List.replicate (xs.length + ys.length + 1) 0) := ⟨by
    simpa [toList_madeCells_one, Value.cells] using hown1, by simp, Pcs.zeros (by omega) _, hnx1⟩
  clear hown1 hgrow1 hnx1
  go_loopw [21] (fun i wr => ∃ (k : Nat) (os : List Int), k ≤ xs.length ∧ i = .int .i64 k ∧ TRow w wr (xs.length + ys.length + 1) os ∧
      Hid (pv 1000000000 os = pv 1000000000 (xs.take k) * pv 1000000000 ys) ∧ Hid (∀ j, k + ys.length ≤ j → os.getD j 0 = 0)) (fun i _ => xs.length - (intOf i).toNat)
  case atStart => exact ⟨0, _, Nat.zero_le _, rfl, hT1, Lib.hid (by rw [pv_zeros]; simp [pv]), Lib.hid (fun j _ => getD_reps _ j)⟩
  case round =>
    obtain ⟨k, os, hk, rfl, hT, HV, HZ⟩ := hrel
    obtain ⟨wo, rfl⟩ : ∃ wo : World, wo = wr := ⟨_, rfl⟩
    by_cases hlt : k < xs.length
    · obtain ⟨b, off, rfl, hbw, hc⟩ := hx.2 (by omega)
      have c1 := (hT.2.2.2.cell (p := ⟨b, off + k, none⟩) hbw).trans (hc k hlt)
      have x1 := px.at (by omega) k
      clear hc
      generalize gx : xs.getD k 0 = x at c1 x1
      have GX := Lib.hid gx
      clear gx
      obtain ⟨x0, x1⟩ := x1
      go_wp2
      go_loopw [8, 28] (fun cr j wr => ∃ (q : Nat) (c : Int) (os : List Int), q ≤ ys.length ∧ cr = .int .u64 c ∧ j = .int .i64 q ∧ 0 ≤ c ∧ c < 1000000000 ∧ TRow w wr (xs.length + ys.length + 1) os ∧
          Hid (pv 1000000000 os + c * 1000000000 ^ (k + q) = pv 1000000000 (xs.take k) * pv 1000000000 ys + x * 1000000000 ^ k * pv 1000000000 (ys.take q)) ∧ Hid (∀ j, k + ys.length ≤ j → os.getD j 0 = 0)) (fun _ j _ => ys.length - (intOf j).toNat)
      case atStart => exact ⟨0, 0, os, Nat.zero_le _, rfl, rfl, by omega, by omega, hT, Lib.hid (by rw [HV.out]; simp [pv]), HZ⟩
      case round =>
        clear hT HV HZ
        obtain ⟨q, c, os, hq, rfl, rfl, hc0, hc1, hT, HV, HZ⟩ := hrel
        by_cases hlq : q < ys.length
        · obtain ⟨b', off', rfl, hbw', hc'⟩ := hy.2 (by omega)
          have c2 := (hT.2.2.2.cell (p := ⟨b', off' + q, none⟩) hbw').trans (hc' q hlq)
          have y1 := py.at (by omega) q
          clear hc'
          generalize gy : ys.getD q 0 = y at c2 y1
          have GY := Lib.hid gy
          clear gy
          obtain ⟨y0, y1⟩ := y1
          have c3 := hT.cell (k + q) (by omega)
          have f3 := hT.free (k + q)
          have o1 := hT.2.2.1.at (by omega) (k + q)
          generalize go : os.getD (k + q) 0 = o at c3 o1
          have GO := Lib.hid go
          clear go
          obtain ⟨o0, o1⟩ := o1
          obtain ⟨m0, m1⟩ := mul_bounds x0 (show x ≤ 999999999 by omega) y0 (show y ≤ 999999999 by omega)
          go_wp2
          go_roundw
          case rel => exact ⟨q + 1, (c + (o + x * y)) / 1000000000, os.set (k + q) ((c + (o + x * y)) % 1000000000), by omega, rfl, by go_num, by omega, by omega, hT.store (k + q) ⟨by omega, by omega⟩,
            Lib.hid (times_step (by have := hT.2.1; omega) HV.out GY.out (by rw [GO.out]; omega)), Lib.hid (fun j hj => by rw [getD_set_other (by omega)]; exact HZ.out j hj)⟩
          case measure => simp [intOf]; omega
        · obtain rfl : q = ys.length := by omega
          have HV2 := Lib.hid (show pv 1000000000 os + c * 1000000000 ^ (k + ys.length) = pv 1000000000 (xs.take (k + 1)) * pv 1000000000 ys by
            have := HV.out
            rw [List.take_length] at this
            rw [this, pv_take_any, GX.out, Int.add_mul, Int.mul_comm x])
          clear HV
          go_wp2
          go_loopw [8, 11] (fun cr j wr => ∃ (q : Nat) (c : Int) (os : List Int), cr = .int .u64 c ∧ j = .int .i64 q ∧ 0 ≤ c ∧ c < 1000000000 ∧ q ≤ k + ys.length + 1 ∧ Hid (q = k + ys.length ∨ c = 0) ∧ TRow w wr (xs.length + ys.length + 1) os ∧
              Hid (pv 1000000000 os + c * 1000000000 ^ q = pv 1000000000 (xs.take (k + 1)) * pv 1000000000 ys) ∧ Hid (∀ j, q ≤ j → os.getD j 0 = 0)) (fun cr _ _ => (intOf cr).toNat)
          case atStart => exact ⟨k + ys.length, c, os, rfl, by go_num, hc0, hc1, by omega, Lib.hid (.inl rfl), hT, HV2, HZ⟩
          case round =>
            clear hT HV2 HZ hc0 hc1
            obtain ⟨q, c, os, rfl, rfl, hc0, hc1, hq, HQ, hT, HV, HZ⟩ := hrel
            by_cases hpos : 0 < c
            · obtain rfl : q = k + ys.length := by rcases HQ.out with h | h <;> omega
              have c3 := hT.cell (k + ys.length) (by omega)
              have f3 := hT.free (k + ys.length)
              rw [HZ.out _ (Nat.le_refl _)] at c3
              go_wp2
              go_roundw
              case rel => exact ⟨k + ys.length + 1, 0, os.set (k + ys.length) (c % 1000000000), by go_num, by go_num, by omega, by omega, by omega, Lib.hid (.inr rfl), hT.store (k + ys.length) ⟨by omega, by omega⟩,
                Lib.hid (times_carry (by have := hT.2.1; omega) (HZ.out _ (Nat.le_refl _)) HV.out (by omega)), Lib.hid (fun j hj => by rw [getD_set_other (by omega)]; exact HZ.out j (by omega))⟩
              case measure => simp [intOf]; omega
            · obtain rfl : c = 0 := by omega
              go_wp2
              go_roundw
              case rel => exact ⟨k + 1, os, by omega, by go_num, hT, Lib.hid (by have := HV.out; simpa using this), Lib.hid (fun j hj => HZ.out j (by omega))⟩
              case measure => simp [intOf]; omega
    · obtain rfl : k = xs.length := by omega
      have HL := Lib.hid hT.2.1
      have HP := Lib.hid hT.2.2.1
      have hnx := hT.2.2.2
      have hrd := Rd.of_owns hT.1 HL.out (by omega)
      rw [List.take_length] at HV
      clear hT HZ
      go_wp2_with fail
      refine (trim_n _ _ _ os _ hrd HL.out (by omega)).mono ?_
      rintro e w' ⟨⟨m, hm, rfl, htr, hpv⟩, rfl⟩
      have HT := Lib.hid (MgN.of_trim (B := w.heap.size) (cap := xs.length + ys.length + 1) hrd HP.out hm (by have := HL.out; omega) htr (hpv _) HV.out (Nat.le_refl _))
      clear htr hpv hm hrd
      go_wp2
      go_ret
      exact ⟨_, rfl, HT.out, hnx⟩

theorem times_mg (v v' : Value) (x y : Int) (w : World) (hx : Mg w v x) (hy : Mg w v' y) (bx : x < LIM) (bY : y < LIM) :
    Calls Tryz.prog 54 #[v, v'] w fun e w' => ∃ u, e = .returned u ∧ MgN w.heap.size w' u (x * y) ∧ Below w.heap.size w w' := by
  obtain ⟨a, n, c, xs, rfl, rfl, hc, hr, hp, ht, rfl⟩ := hx
  obtain ⟨a', n', c', ys, rfl, rfl, hc', hr', hp', ht', rfl⟩ := hy
  exact times_any a a' c c' xs ys w hr hr' (len_of_lim hp ht bx) (len_of_lim hp' ht' bY) hp hp'

end Go.Proofs.YtpjknkembghjcaaGreatDoor

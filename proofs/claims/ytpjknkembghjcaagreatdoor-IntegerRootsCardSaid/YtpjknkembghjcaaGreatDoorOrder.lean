/- integer.order: it compares magnitudes. -/
import Derived.Test.YtpjknkembghjcaaGreatDoorBase
namespace Go.Proofs.YtpjknkembghjcaaGreatDoor
open Go.RowKit Mag

set_option maxHeartbeats 800000 in
theorem order_any (B : Int) (hB : 0 < B) (A A' : Option Addr) (ca cb : Nat) (xs ys : List Int) (w : World) (hx : Rd w .u64 A xs) (hy : Rd w .u64 A' ys)
    (px : Pcs B xs) (py : Pcs B ys) (tx : Trm xs) (ty : Trm ys) :
    Calls Tryz.prog 53 #[.slice A xs.length ca, .slice A' ys.length cb] w fun e w' => e = .returned (.int .i64 (cmpI (pv B xs) (pv B ys))) ∧ ∃ n, w' = w.drewN n := by
  have hlx := hx.1
  have hly := hy.1
  rcases Nat.lt_trichotomy xs.length ys.length with h | h | h
  · have hb : ((xs.length : Int) == (ys.length : Int)) = false := beq_eq_false_iff_ne.2 (by omega)
    have hb' : ((xs.length : Int) != (ys.length : Int)) = true := by rw [bne_iff_ne]; omega
    have HP := Lib.hid (cmpI_lt (lt_of_len hB px py ty h))
    go_enter Tryz.func53, Tryz.ntmps53
    go_wp2
    go_ret
    exact ⟨by rw [HP.out]; rfl, 0, rfl⟩
  · have HE := Lib.hid h
    have hb : ((xs.length : Int) == (ys.length : Int)) = true := beq_iff_eq.2 (by omega)
    have hb' : ((xs.length : Int) != (ys.length : Int)) = false := by simp [h]
    have h1 : xs.length ≤ ys.length := by omega
    have h2 : ys.length ≤ xs.length := by omega
    clear h
    go_enter Tryz.func53, Tryz.ntmps53
    go_wp2
    go_loopw [5] (fun i wr => ∃ (k n : Nat) (m : Int), k ≤ xs.length ∧ i = .int .i64 m ∧ Hid (m = (k : Int) - 1) ∧ Hid (xs.drop k = ys.drop k) ∧ wr = w.drewN n) (fun i _ => (intOf i + 1).toNat)
    case atStart => exact ⟨xs.length, 0, _, Nat.le_refl _, rfl, Lib.hid rfl, Lib.hid (by rw [List.drop_length, HE.out, List.drop_length]), rfl⟩
    case round =>
      obtain ⟨k, n, m, hk, rfl, hm, hd, rfl⟩ := hrel
      by_cases h0 : 0 < k
      · obtain ⟨j, rfl⟩ : ∃ j, k = j + 1 := ⟨k - 1, by omega⟩
        obtain rfl : m = (j : Int) := by have := hm.out; omega
        obtain ⟨b, off, rfl, _, hc⟩ := hx.2 (by omega)
        obtain ⟨b', off', rfl, _, hc'⟩ := hy.2 (by omega)
        have c1 := hc j (by omega)
        have c2 := hc' j (by omega)
        have j1 : j < xs.length := by omega
        have j2 : j < ys.length := by omega
        clear hc hc' hm
        generalize gx : xs.getD j 0 = x at c1
        generalize gy : ys.getD j 0 = y at c2
        have GX := Lib.hid gx
        have GY := Lib.hid gy
        clear gx gy
        by_cases he : x = y
        · have HD := Lib.hid (getD_drop_eq j1 j2 hd.out (by rw [GX.out, GY.out, he]))
          have e1 : (x != y) = false := by simp [he]
          clear he
          go_wp2
          go_quiet (fail)
          go_wp2
          go_roundw
          case rel => exact ⟨j, n + nq, _, by omega, rfl, Lib.hid rfl, HD, rfl⟩
          case measure => simp [intOf]
        · have e1 : (x != y) = true := by simp [he]
          by_cases hlt : x < y
          · have HP := Lib.hid (cmpI_lt (lt_of_drop hB px py HE.out j j1 hd.out (by rw [GX.out, GY.out]; exact hlt)))
            go_wp2
            go_quiet (fail)
            go_wp2
            go_quiet (fail)
            go_wp2
            go_ret
            exact ⟨by rw [HP.out]; rfl, _, by rw [World.drewN_drewN, World.drewN_drewN]⟩
          · have HP := Lib.hid (cmpI_gt (lt_of_drop hB py px HE.out.symm j j2 hd.out.symm (by rw [GX.out, GY.out]; omega)))
            go_wp2
            go_quiet (fail)
            go_wp2
            go_quiet (fail)
            go_wp2
            go_ret
            exact ⟨by rw [HP.out]; rfl, _, by rw [World.drewN_drewN, World.drewN_drewN]⟩
      · obtain rfl : k = 0 := by omega
        obtain rfl : m = -1 := by have := hm.out; omega
        clear hm
        have HP := Lib.hid (cmpI_eq (show pv B xs = pv B ys by have := hd.out; simp only [List.drop_zero] at this; rw [this]))
        go_wp2
        go_ret
        exact ⟨by rw [HP.out]; rfl, n, rfl⟩
  · have hb : ((xs.length : Int) == (ys.length : Int)) = false := beq_eq_false_iff_ne.2 (by omega)
    have hb' : ((xs.length : Int) != (ys.length : Int)) = true := by rw [bne_iff_ne]; omega
    have hn : ¬ xs.length < ys.length := by omega
    have HP := Lib.hid (cmpI_gt (lt_of_len hB py px tx h))
    go_enter Tryz.func53, Tryz.ntmps53
    go_wp2
    go_ret
    exact ⟨by rw [HP.out]; rfl, 0, rfl⟩

theorem order_mg (v v' : Value) (x y : Int) (w : World) (hx : Mg w v x) (hy : Mg w v' y) :
    Calls Tryz.prog 53 #[v, v'] w fun e w' => e = .returned (.int .i64 (cmpI x y)) ∧ ∃ n, w' = w.drewN n := by
  obtain ⟨a, n, c, xs, rfl, rfl, hc, hr, hp, ht, rfl⟩ := hx
  obtain ⟨a', n', c', ys, rfl, rfl, hc', hr', hp', ht', rfl⟩ := hy
  exact order_any 1000000000 (by omega) a a' c c' xs ys w hr hr' hp hp' ht ht'

end Go.Proofs.YtpjknkembghjcaaGreatDoor

/- The reference's made and Mul. -/
import Derived.Test.YtpjknkembghjcaaGreatDoorRefGive
import Derived.Test.YtpjknkembghjcaaGreatDoorMul
import Derived.Test.YtpjknkembghjcaaGreatDoorKnown
import Derived.Test.YtpjknkembghjcaaGreatDoorSub
set_option linter.unusedVariables false
set_option linter.unusedSimpArgs false
namespace Go.Proofs.YtpjknkembghjcaaGreatDoor
open Go.RowKit Go.Lib Go.Proofs.YtpjknkembghjcaaGreatDoor.Dec Go.Proofs.YtpjknkembghjcaaGreatDoor.Mag Go.Proofs.YtpjknkembghjcaaGreatDoor.Chunk

/-- cut leaves a magnitude a magnitude. -/
theorem cut_mg (v : Value) (x : Int) (w : World) (hx : MgI w v x) :
    Calls Tryz.prog 70 #[v] w fun e w' => (∃ a m c, e = .returned (.slice a m c) ∧ MgI w (.slice a m c) x ∧ ((0 < m ∧ 0 < x) ∨ (m = 0 ∧ x = 0))) ∧ w' = w := by
  obtain ⟨a, n, c, xs, rfl, rfl, hc, hr, hp, ht, hv, ha⟩ := hx
  refine (cut_det a xs.length c xs w hr rfl hc).mono ?_
  rintro e w' ⟨rfl, rfl⟩
  have hM := MgI.trimmed hr hp hc hv ha
  refine ⟨⟨a, trimN xs, c, rfl, hM, ?_⟩, rfl⟩
  obtain ⟨a2, n2, c2, ys, e2, hl, _, _, hp2, ht2, hv2, _⟩ := hM
  cases e2
  rcases Nat.eq_zero_or_pos ys.length with h | h
  · right
    obtain rfl : ys = [] := List.length_eq_zero_iff.1 h
    exact ⟨by rw [← hl]; rfl, by rw [← hv2]; rfl⟩
  · left
    exact ⟨by omega, by rw [← hv2]; exact ht2.pos (by decide) hp2 h⟩
theorem MgI.nonneg {w : World} {v : Value} {x : Int} (h : MgI w v x) : 0 ≤ x := by
  obtain ⟨a, n, c, xs, _, _, _, _, hp, _, hv, _⟩ := h
  rw [← hv]; exact pv_nonneg (by decide) hp

set_option maxHeartbeats 1000000 in
set_option maxRecDepth 100000 in
theorem made_n (neg : Bool) (v : Value) (x : Int) (w : World) (hx : MgI w v x) (bx : x < 10000 ^ 200000) (hdl : (decDigits x.toNat).length ≤ 100000000) (htab : TabIs Tryz.prog w "internal/strconv.uint64pow10" .u64 pow10Tab) :
    Calls Tryz.prog 46 #[.bool neg, v] w fun e w' => e = .returned (.string ⟨(itoa (if neg then -x else x)).toArray⟩) ∧ Below w.heap.size w w' := by
  have hC := Lib.hid (cut_mg v x w hx)
  have hG := Lib.hid (fun u (h : MgI w u x) => give_n u x w h bx htab)
  have hx0 := hx.nonneg
  have HI := Lib.hid (show itoa x = decDigits x.toNat by rw [Dec.itoa_nonneg hx0]; congr 1; omega)
  have HJ := Lib.hid (show 0 < x → itoa (-x) = 45 :: decDigits x.toNat from fun h => by rw [Dec.itoa_neg (by omega)]; congr 2; omega)
  have HK := Lib.hid (show x = 0 → itoa (-x) = decDigits x.toNat from fun h => by rw [h, show (-0 : Int) = 0 by decide, Dec.itoa_nonneg (by decide)]; rfl)
  clear bx
  cases neg
  · go_enter Tryz.func46, Tryz.ntmps46
    go_wp2_with (go_at_call 70; refine hC.out.mono ?_; rintro e w1 ⟨⟨a, m, c, rfl, hm, hor⟩, rfl⟩; have HM := Lib.hid hm; clear hm; refine Hid.out ?_)
    refine Lib.hid ?_
    go_wp2_with (go_at_call 72; refine (hG.out _ HM.out).mono ?_; rintro e w2 ⟨rfl, hb⟩)
    go_ret
    exact ⟨by rw [HI.out]; rfl, hb⟩
  · go_enter Tryz.func46, Tryz.ntmps46
    go_wp2_with (go_at_call 70; refine hC.out.mono ?_; rintro e w1 ⟨⟨a, m, c, rfl, hm, hor⟩, rfl⟩; have HM := Lib.hid hm; clear hm; refine Hid.out ?_)
    refine Lib.hid ?_
    rcases hor with ⟨h1, h2⟩ | ⟨h1, h2⟩
    · have h1' : 0 < (m : Int) := by omega
      go_wp2_with (go_at_call 72; refine (hG.out _ HM.out).mono ?_; rintro e w2 ⟨rfl, hb⟩)
      go_ret
      exact ⟨by rw [HJ.out h2]; rfl, hb⟩
    · subst h1
      go_wp2_with (go_at_call 72; refine (hG.out _ HM.out).mono ?_; rintro e w2 ⟨rfl, hb⟩)
      go_ret
      exact ⟨by rw [Dec.itoa_nonneg (by decide)]; rfl, hb⟩

theorem lt_base {n len k : Nat} (h : n < 10 ^ len) (hk : len ≤ 4 * k) : (n : Int) < (10000 : Int) ^ k := by
  have h1 : 10 ^ len ≤ 10 ^ (4 * k) := Nat.pow_le_pow_right (by decide) hk
  have h2 : ((10 ^ (4 * k) : Nat) : Int) = (10000 : Int) ^ k := by rw [Nat.pow_mul]; simp
  omega
/-- The length of a magnitude's digits. -/
theorem digs_len (x : Int) : (decDigits x.natAbs).length ≤ (itoa x).length := by rw [itoa_signed, signed]; split <;> simp

set_option maxHeartbeats 1000000 in
set_option maxRecDepth 100000 in
theorem ref_mul_quick (x y : Int) (w : World) (h18 : (decDigits x.natAbs).length + (decDigits y.natAbs).length ≤ 18) (hx : (itoa x).length ≤ 100000) (hy : (itoa y).length ≤ 100000) (htab : TabIs Tryz.prog w "internal/strconv.uint64pow10" .u64 pow10Tab) :
    Calls Tryz.prog 13 #[.string ⟨(itoa x).toArray⟩, .string ⟨(itoa y).toArray⟩] w fun e w' => e = .returned (.string ⟨(itoa (x * y)).toArray⟩) ∧ Below w.heap.size w w' := by
  have h1 := lt_pow_dec x.natAbs
  have h2 := lt_pow_dec y.natAbs
  have hp : x.natAbs * y.natAbs < 10 ^ 18 := by
    have h3 : x.natAbs * y.natAbs < 10 ^ (decDigits x.natAbs).length * 10 ^ (decDigits y.natAbs).length := Nat.mul_lt_mul'' h1 h2
    rw [← Nat.pow_add] at h3
    exact Nat.lt_of_lt_of_le h3 (Nat.pow_le_pow_right (by decide) h18)
  have hxp : x.natAbs < 10 ^ 18 := Nat.lt_of_lt_of_le h1 (Nat.pow_le_pow_right (by decide) (by omega))
  have hyp : y.natAbs < 10 ^ 18 := Nat.lt_of_lt_of_le h2 (Nat.pow_le_pow_right (by decide) (by omega))
  rw [← Int.natAbs_mul] at hp
  have hb : -1000000000000000000 < x * y ∧ x * y < 1000000000000000000 := by omega
  obtain ⟨hb1, hb2⟩ := hb
  obtain ⟨ex, _⟩ := small_in (x := x) (by omega)
  obtain ⟨ey, _⟩ := small_in (x := y) (by omega)
  have hSx := Lib.hid (fun w => ref_split_n x w (by omega))
  have hSy := Lib.hid (fun w => ref_split_n y w (by omega))
  have hMx := Lib.hid (fun w => ref_small_n x w (by omega))
  have hMy := Lib.hid (fun w => ref_small_n y w (by omega))
  rw [ex] at hMx
  rw [ey] at hMy
  have hO := Lib.hid (fun w htab => ref_of_n (x * y) (by omega) (by omega) w htab)
  generalize smallIs x = sx at *
  generalize smallIs y = sy at *
  generalize hdx : decDigits x.natAbs = s at *
  generalize hdy : decDigits y.natAbs = t at *
  have hss := str_size s
  have hst := str_size t
  have h18' : (s.length : Int) + (t.length : Int) ≤ 18 := by omega
  have hbx : -1000000000000000000 < x ∧ x < 1000000000000000000 := by omega
  have hby : -1000000000000000000 < y ∧ y < 1000000000000000000 := by omega
  obtain ⟨hbx1, hbx2⟩ := hbx
  obtain ⟨hby1, hby2⟩ := hby
  clear h1 h2 hp hxp hyp ex ey hdx hdy
  go_enter Tryz.func13, Tryz.ntmps13
  have bd := Below.refl w.heap.size w
  go_wp2_with (first
    | (go_at_call 42; (with_reducible refine (hSx.out _).mono ?_); rintro e w1 ⟨rfl, h1⟩; have bd := bd.trans ((below_dn h1).mono bd.size))
    | (go_at_call 42; (with_reducible refine (hSy.out _).mono ?_); rintro e w1 ⟨rfl, h1⟩; have bd := bd.trans ((below_dn h1).mono bd.size))
    | (go_at_call 47; (with_reducible refine (hMx.out _).mono ?_); rintro e w1 ⟨rfl, h1⟩; have bd := bd.trans (h1.mono bd.size))
    | (go_at_call 47; (with_reducible refine (hMy.out _).mono ?_); rintro e w1 ⟨rfl, h1⟩; have bd := bd.trans (h1.mono bd.size))
    | (go_at_call 17; (with_reducible refine (hO.out _ (tab_below htab bd)).mono ?_); rintro e w1 ⟨rfl, h1⟩; have bd := bd.trans (h1.mono bd.size)))
  go_ret
  exact ⟨rfl, bd⟩

set_option maxHeartbeats 1000000 in
set_option maxRecDepth 100000 in
theorem ref_mul_long (x y : Int) (w : World) (h18 : ¬ (decDigits x.natAbs).length + (decDigits y.natAbs).length ≤ 18) (hx : (itoa x).length ≤ 100000) (hy : (itoa y).length ≤ 100000) (htab : TabIs Tryz.prog w "internal/strconv.uint64pow10" .u64 pow10Tab) :
    Calls Tryz.prog 13 #[.string ⟨(itoa x).toArray⟩, .string ⟨(itoa y).toArray⟩] w fun e w' => e = .returned (.string ⟨(itoa (x * y)).toArray⟩) ∧ Below w.heap.size w w' := by
  have lx := digs_len x
  have ly := digs_len y
  have hxy := mul_len (by decide) hx hy
  have hdl : (decDigits ((x.natAbs : Int) * (y.natAbs : Int)).toNat).length ≤ 100000000 := by
    rw [← natAbs_mul_int, Int.toNat_natCast]; exact Nat.le_trans (digs_len _) (by omega)
  have bx : (x.natAbs : Int) < 10000 ^ 100000 := lt_base (lt_pow_dec x.natAbs) (by omega)
  have bY : (y.natAbs : Int) < 10000 ^ 100000 := lt_base (lt_pow_dec y.natAbs) (by omega)
  have bxy : (x.natAbs : Int) * (y.natAbs : Int) < 10000 ^ 200000 := by
    rw [← natAbs_mul_int]
    exact lt_base (lt_pow_dec (x * y).natAbs) (by have := digs_len (x * y); omega)
  have hSx := Lib.hid (fun w => ref_split_n x w (by omega))
  have hSy := Lib.hid (fun w => ref_split_n y w (by omega))
  have hTx := Lib.hid (fun w => take_n (decDigits x.natAbs) w (dec_all _) (by omega))
  have hTy := Lib.hid (fun w => take_n (decDigits y.natAbs) w (dec_all _) (by omega))
  rw [dval_dec] at hTx hTy
  have hT := Lib.hid (fun v v' w hx hy => ref_times_n v v' (x.natAbs : Int) (y.natAbs : Int) w hx hy bx bY)
  have hM := Lib.hid (fun u w h htab => made_n (decide (x < 0) != decide (y < 0)) u ((x.natAbs : Int) * (y.natAbs : Int)) w h bxy hdl htab)
  rw [mul_sign] at hM
  simp only [bne] at hM
  have hss := str_size (decDigits x.natAbs)
  have hst := str_size (decDigits y.natAbs)
  have h18' : ¬ ((decDigits x.natAbs).length : Int) + ((decDigits y.natAbs).length : Int) ≤ 18 := by omega
  clear bx bY bxy hdl hxy
  generalize decDigits x.natAbs = s at *
  generalize decDigits y.natAbs = t at *
  generalize (x.natAbs : Int) = X at *
  generalize (y.natAbs : Int) = Y at *
  generalize x * y = Z at *
  generalize decide (x < 0) = sx at *
  generalize decide (y < 0) = sy at *
  have hsl : s.length ≤ 100000 := by omega
  have htl : t.length ≤ 100000 := by omega
  go_enter Tryz.func13, Tryz.ntmps13
  have bd := Below.refl w.heap.size w
  go_wp2_with (first
    | (go_at_call 42; (with_reducible refine (hSx.out _).mono ?_); rintro e w1 ⟨rfl, h1⟩; have bd := bd.trans ((below_dn h1).mono bd.size))
    | (go_at_call 42; (with_reducible refine (hSy.out _).mono ?_); rintro e w1 ⟨rfl, h1⟩; have bd := bd.trans ((below_dn h1).mono bd.size))
    | (go_at_call 44; (with_reducible refine (hTx.out _).mono ?_); rintro e w1 ⟨vx, rfl, hm, h1⟩; have HX := Lib.hid hm; clear hm; have bd := bd.trans (h1.mono bd.size))
    | (go_at_call 44; (with_reducible refine (hTy.out _).mono ?_); rintro e w1 ⟨vy, rfl, hm, h1⟩; have HY := Lib.hid hm; clear hm; have HX := Lib.hid (HX.out.below h1); have bd := bd.trans (h1.mono bd.size))
    | (go_at_call 48; (with_reducible refine (hT.out _ _ _ HX.out HY.out).mono ?_); rintro e w1 ⟨u, rfl, hm, h1⟩; have HU := Lib.hid hm; clear hm; have bd := bd.trans (h1.mono bd.size))
    | (go_at_call 46; (with_reducible refine (hM.out _ _ HU.out (tab_below htab bd)).mono ?_); rintro e w1 ⟨rfl, h1⟩; have bd := bd.trans (h1.mono bd.size)))
  go_ret
  exact ⟨rfl, bd⟩

/-- The reference's Mul. -/
theorem ref_mul_n (x y : Int) (w : World) (hx : (itoa x).length ≤ 100000) (hy : (itoa y).length ≤ 100000) (htab : TabIs Tryz.prog w "internal/strconv.uint64pow10" .u64 pow10Tab) :
    Calls Tryz.prog 13 #[.string ⟨(itoa x).toArray⟩, .string ⟨(itoa y).toArray⟩] w fun e w' => e = .returned (.string ⟨(itoa (x * y)).toArray⟩) ∧ Below w.heap.size w w' := by
  by_cases h : (decDigits x.natAbs).length + (decDigits y.natAbs).length ≤ 18
  · exact ref_mul_quick x y w h hx hy htab
  · exact ref_mul_long x y w h hx hy htab

end Go.Proofs.YtpjknkembghjcaaGreatDoor

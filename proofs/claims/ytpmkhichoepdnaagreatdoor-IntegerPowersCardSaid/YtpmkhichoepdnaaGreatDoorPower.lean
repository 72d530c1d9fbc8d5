/- integer.Power. -/
import Derived.Test.YtpmkhichoepdnaaGreatDoorMul
import Derived.Test.YtpmkhichoepdnaaGreatDoorDivMod
import Derived.Test.YtpmkhichoepdnaaGreatDoorNeg
set_option linter.unusedVariables false
set_option linter.unusedSimpArgs false
namespace Go.Proofs.YtpmkhichoepdnaaGreatDoor
open Go.RowKit Go.Lib Go.Proofs.YtpmkhichoepdnaaGreatDoor.Dec Go.Proofs.YtpmkhichoepdnaaGreatDoor.Mag Go.Proofs.YtpmkhichoepdnaaGreatDoor.Chunk

theorem pow_lim {a d e : Nat} (ha : a ≤ 10 ^ d) (hd : d * e ≤ 900000) : ((a : Int) ^ e) < LIM := by
  have h1 : a ^ e ≤ (10 ^ d) ^ e := Nat.pow_le_pow_left ha e
  rw [← Nat.pow_mul] at h1
  have h2 : 10 ^ (d * e) < 10 ^ (d * e + 1) := Nat.pow_lt_pow_right (by decide) (Nat.lt_succ_self _)
  refine lim_of_pow (k := d * e + 1) (by omega) ?_
  have h3 := pow_mono_base (d * e + 1)
  have h4 : ((a ^ e : Nat) : Int) = (a : Int) ^ e := by simp
  have h5 : ((10 ^ (d * e + 1) : Nat) : Int) = (10 : Int) ^ (d * e + 1) := by simp
  generalize (10 : Int) ^ (d * e + 1) = T at *
  generalize (a : Int) ^ e = U at *
  generalize 10 ^ (d * e + 1) = T' at *
  generalize 10 ^ (d * e) = S' at *
  omega
theorem pow_odd {m e j n : Nat} (h : m + e * (2 * j + 1) = n) : (m + e) + (2 * e) * j = n := by
  rw [← h, Nat.mul_add, Nat.mul_one, Nat.mul_comm 2 e, Nat.mul_assoc]; omega
theorem pow_even {m e j n : Nat} (h : m + e * (2 * j) = n) : m + (2 * e) * j = n := by
  rw [← h, Nat.mul_comm 2 e, Nat.mul_assoc]
theorem pow_abs (x : Int) (n : Nat) : (if (decide (x < 0) && decide (n % 2 = 1)) then -((x.natAbs : Int) ^ n) else (x.natAbs : Int) ^ n) = x ^ n := by
  by_cases hx : x < 0
  · have e : x = -(x.natAbs : Int) := by omega
    generalize x.natAbs = a at *
    subst e
    rw [decide_eq_true hx, Bool.true_and]
    have key : ∀ k : Nat, (-(a : Int)) ^ (2 * k) = (a : Int) ^ (2 * k) := fun k => by
      rw [Int.pow_mul, Int.pow_mul]
      congr 1
      rw [Int.pow_succ, Int.pow_succ, Int.pow_zero, Int.pow_succ, Int.pow_succ, Int.pow_zero]
      grind
    rcases Nat.mod_two_eq_zero_or_one n with h | h
    · rw [if_neg (by simp [h])]
      obtain ⟨k, rfl⟩ : ∃ k, n = 2 * k := ⟨n / 2, by omega⟩
      exact (key k).symm
    · rw [if_pos (by simp [h])]
      obtain ⟨k, rfl⟩ : ∃ k, n = 2 * k + 1 := ⟨n / 2, by omega⟩
      rw [Int.pow_succ, Int.pow_succ, key k]
      grind
  · rw [decide_eq_false hx, Bool.false_and, if_neg (by decide)]
    rw [show (x.natAbs : Int) = x by omega]

set_option maxHeartbeats 1000000 in
set_option maxRecDepth 100000 in
theorem power_neg (x n : Int) (w : World) (hn : n < 0) (h0 : -9223372036854775808 ≤ n) :
    Calls Tryz.prog 21 #[.string ⟨(itoa x).toArray⟩, .int .i64 n] w fun e w' => e = .returned (.tuple #[.string ⟨#[]⟩, .int .i64 3]) ∧ w' = w := by
  go_enter Tryz.func21, Tryz.ntmps21
  go_wp2_with fail
  go_ret2
  exact ⟨rfl, rfl⟩

set_option maxHeartbeats 1000000 in
set_option maxRecDepth 100000 in
theorem power_big (x n : Int) (w : World) (hl : (itoa x).length ≤ 1000) (hn : 0 ≤ n) (h1 : n ≤ 9223372036854775807) (hb : (5000 : Int).tdiv ((decDigits x.natAbs).length : Int) < n) :
    Calls Tryz.prog 21 #[.string ⟨(itoa x).toArray⟩, .int .i64 n] w fun e w' => e = .returned (.tuple #[.string ⟨#[]⟩, .int .i64 4]) ∧ w' = w := by
  have hA := Lib.hid (fun w => abs_n x w)
  rw [itoa_nat] at hA
  have hst := str_size (decDigits x.natAbs)
  have hp := dec_len_pos x.natAbs
  have hd0 : ((decDigits x.natAbs).length : Int) ≠ 0 := by omega
  have hle : (decDigits x.natAbs).length ≤ 1000 := by
    have : (decDigits x.natAbs).length ≤ (itoa x).length := by rw [itoa_signed, signed]; split <;> simp
    omega
  generalize decDigits x.natAbs = s at *
  have hq1 : 0 ≤ (5000 : Int).tdiv (s.length : Int) := Int.tdiv_nonneg (by decide) (by omega)
  have hq2 : (5000 : Int).tdiv (s.length : Int) ≤ 5000 := by
    rw [Int.tdiv_eq_ediv_of_nonneg (by decide)]
    exact Int.ediv_le_self _ (by decide)
  have hbd := decide_eq_true hb
  have hn' : ¬ n < 0 := by omega
  go_enter Tryz.func21, Tryz.ntmps21
  go_wp2_with (go_at_call 32; refine (hA.out _).mono ?_; rintro e w1 ⟨rfl, rfl⟩)
  go_ret2
  exact ⟨rfl, rfl⟩

set_option maxHeartbeats 2000000 in
set_option maxRecDepth 100000 in
theorem power_ok (x : Int) (n : Nat) (w : World) (hl : (itoa x).length ≤ 1000) (hb : ¬ (5000 : Int).tdiv ((decDigits x.natAbs).length : Int) < (n : Int))
    (htab : TabIs Tryz.prog w "internal/strconv.uint64pow10" .u64 pow10Tab) :
    Calls Tryz.prog 21 #[.string ⟨(itoa x).toArray⟩, .int .i64 (n : Int)] w fun e w' => e = .returned (.tuple #[.string ⟨(itoa (x ^ n)).toArray⟩, .int .i64 0]) ∧ Below w.heap.size w w' := by
  have hA := Lib.hid (fun w => abs_n x w)
  rw [itoa_nat] at hA
  have hst := str_size (decDigits x.natAbs)
  have hp := dec_len_pos x.natAbs
  have hd0 : ((decDigits x.natAbs).length : Int) ≠ 0 := by omega
  have hle : (decDigits x.natAbs).length ≤ 1000 := by
    have : (decDigits x.natAbs).length ≤ (itoa x).length := by rw [itoa_signed, signed]; split <;> simp
    omega
  have hpw := lt_pow_dec x.natAbs
  have HPA := Lib.hid (pow_abs x n)
  have hO := Lib.hid (fun w => open_n x w (by omega))
  generalize decDigits x.natAbs = s at *
  have hq1 : 0 ≤ (5000 : Int).tdiv (s.length : Int) := Int.tdiv_nonneg (by decide) (by omega)
  have hq2 : (5000 : Int).tdiv (s.length : Int) ≤ 5000 := by
    rw [Int.tdiv_eq_ediv_of_nonneg (by decide)]
    exact Int.ediv_le_self _ (by decide)
  have hbd := decide_eq_false hb
  have hn5 : n ≤ 5000 := by omega
  have hsn : s.length * n ≤ 5000 := by
    have h1 : (n : Int) ≤ 5000 / (s.length : Int) := by rw [← Int.tdiv_eq_ediv_of_nonneg (by decide)]; omega
    have h2 : (n : Int) * (s.length : Int) ≤ 5000 := Int.le_trans (Int.mul_le_mul_of_nonneg_right h1 (by omega)) (Int.ediv_mul_le _ hd0)
    have h3 : ((s.length * n : Nat) : Int) = (n : Int) * (s.length : Int) := by rw [Int.natCast_mul, Int.mul_comm]
    omega
  have HLIM := Lib.hid (show ∀ e, e ≤ n → ((x.natAbs : Int) ^ e) < LIM from fun e he => pow_lim (Nat.le_of_lt hpw) (Nat.le_trans (Nat.mul_le_mul_left _ he) (by omega)))
  clear hpw hsn
  generalize hsx : decide (x < 0) = sx at *
  have hx0 : (0 : Int) ≤ (x.natAbs : Int) := by omega
  generalize (x.natAbs : Int) = X at *
  generalize x ^ n = Z at *
  have hn' : ¬ (n : Int) < 0 := by omega
  go_enter Tryz.func21, Tryz.ntmps21
  go_wp2_with (go_at_call 32; refine (hA.out _).mono ?_; rintro e w1 ⟨rfl, rfl⟩; refine Hid.out ?_)
  refine Lib.hid ?_
  go_wp2_with (go_at_call 36; refine (hO.out _).mono ?_; rintro e w3 ⟨p, rfl, hp3, hb3⟩; refine Hid.out ?_)
  refine Lib.hid ?_
  have HP := Lib.hid hp3.mg
  have HL1 := Lib.hid ((mg_lit w1 1 (by decide) (by decide)).below (Nat.le_refl _) hb3)
  have h3 : Below w1.heap.size w1 w3 := ((Below.refl _ _).alloc (Nat.le_refl _) _).trans (hb3.mono (by simp))
  obtain ⟨a, nn, c, zp, rfl, hrest⟩ := hp3.mg
  clear hrest hp3 hb3
  go_wp2_with fail
  generalize hW4 : w3.alloc (.cells #[.bool sx, .slice a nn c] 51) = W4
  have h4 : Below w3.heap.size w3 W4 := by rw [← hW4]; exact (Below.refl _ _).alloc (Nat.le_refl _) _
  have c0 : W4.cell? ⟨w3.heap.size, 0, none⟩ = some (.bool sx) := by rw [← hW4]; simp
  have c1 : W4.cell? ⟨w3.heap.size, 1, none⟩ = some (.slice a nn c) := by rw [← hW4]; simp
  have hs4 : w3.heap.size < W4.heap.size := by rw [← hW4]; simp
  have HP4 := Lib.hid (HP.out.below (Nat.le_refl _) h4)
  have HL4 := Lib.hid (HL1.out.below (Nat.le_refl _) h4)
  have hw4 := h3.trans (h4.mono h3.size)
  clear hW4 HP HL1 h3 h4
  generalize w3.heap.size = s3 at *
  go_quiet (fail)
  go_wp2_with fail
  have hD : Below W4.heap.size W4 (W4.drewN nq) := below_drewN (Below.refl _ _) _
  have HP5 := Lib.hid (HP4.out.drewN nq)
  have HL5 := Lib.hid (HL4.out.drewN nq)
  clear HP4 HL4 c1
  go_loopw [6, 8, 9] (fun ov kv bv wr => ∃ (m e k : Nat), kv = .int .i64 k ∧ Hid (Mg wr ov (X ^ m)) ∧ Hid (Mg wr bv (X ^ e)) ∧ Hid (m + e * k = n) ∧ k ≤ n ∧ Below W4.heap.size W4 wr) (fun _ k _ _ => (intOf k).toNat)
  case atStart => exact ⟨0, 1, n, rfl, Lib.hid (by rw [Int.pow_zero]; exact HL5.out), Lib.hid (by rw [Int.pow_succ, Int.pow_zero, Int.one_mul]; exact HP5.out), Lib.hid (by omega), Nat.le_refl _, hD⟩
  case round =>
    clear HP5 HL5 hD
    obtain ⟨m, e, k, rfl, HO, HB, HE, hkn, hbr⟩ := hrel
    obtain ⟨wo, rfl⟩ : ∃ wo : World, wo = wr := ⟨_, rfl⟩
    by_cases hk : 0 < k
    · have hmn : m ≤ n := by have := HE.out; omega
      have hen : e ≤ n := by have := HE.out; have := Nat.le_mul_of_pos_right e hk; omega
      have LM := Lib.hid (HLIM.out m hmn)
      have LE := Lib.hid (HLIM.out e hen)
      obtain ⟨j, hj⟩ : ∃ j, k = 2 * j + 1 ∨ k = 2 * j := ⟨k / 2, by omega⟩
      have hq : (k : Int).tdiv 2 = (j : Int) := by rw [Int.tdiv_eq_ediv_of_nonneg (by omega)]; omega
      rcases hj with hj | hj
      · have hr : (k : Int).tmod 2 = 1 := by rw [Int.tmod_eq_emod_of_nonneg (by omega)]; omega
        have HE2 := Lib.hid (pow_odd (show m + e * (2 * j + 1) = n by rw [← hj]; exact HE.out))
        have hjn : j ≤ n := by omega
        have hjk := Lib.hid (show j < k by omega)
        clear hj HE
        go_wp2_with (go_at_call 54; refine (times_mg _ _ (X ^ m) (X ^ e) _ HO.out HB.out LM.out LE.out).mono ?_; rintro e1 w5 ⟨u, rfl, hu, hb5⟩; refine Hid.out ?_)
        refine Lib.hid ?_
        have HO5 := Lib.hid (show Mg w5 u (X ^ (m + e)) by rw [Int.pow_add]; exact hu.mg)
        have HB5 := Lib.hid (HB.out.below (Nat.le_refl _) hb5)
        have hbr5 := hbr.trans (hb5.mono hbr.size)
        clear hu hb5
        go_wp2_with (go_at_call 54; refine (times_mg _ _ (X ^ e) (X ^ e) _ HB5.out HB5.out LE.out LE.out).mono ?_; rintro e1 w6 ⟨u6, rfl, hu, hb6⟩; refine Hid.out ?_)
        refine Lib.hid ?_
        have HB6 := Lib.hid (show Mg w6 u6 (X ^ (2 * e)) by rw [Nat.two_mul, Int.pow_add]; exact hu.mg)
        have HO6 := Lib.hid (HO5.out.below (Nat.le_refl _) hb6)
        have hbr6 := hbr5.trans (hb6.mono hbr5.size)
        clear hu hb6
        go_wp2_with fail
        go_roundw
        case rel => exact ⟨m + e, 2 * e, j, by first | rfl | rw [hq], HO6, HB6, HE2, hjn, hbr6⟩
        case measure => have := hjk.out; simp [intOf, hq]; try omega
      · have hr : (k : Int).tmod 2 = 0 := by rw [Int.tmod_eq_emod_of_nonneg (by omega)]; omega
        have HE2 := Lib.hid (pow_even (show m + e * (2 * j) = n by rw [← hj]; exact HE.out))
        have hjn : j ≤ n := by omega
        have hjk := Lib.hid (show j < k by omega)
        clear hj HE
        go_wp2_with (go_at_call 54; refine (times_mg _ _ (X ^ e) (X ^ e) _ HB.out HB.out LE.out LE.out).mono ?_; rintro e1 w6 ⟨u6, rfl, hu, hb6⟩; refine Hid.out ?_)
        refine Lib.hid ?_
        have HB6 := Lib.hid (show Mg w6 u6 (X ^ (2 * e)) by rw [Nat.two_mul, Int.pow_add]; exact hu.mg)
        have HO6 := Lib.hid (HO.out.below (Nat.le_refl _) hb6)
        have hbr6 := hbr.trans (hb6.mono hbr.size)
        clear hu hb6
        go_wp2_with fail
        go_roundw
        case rel => exact ⟨m, 2 * e, j, by first | rfl | rw [hq], HO6, HB6, HE2, hjn, hbr6⟩
        case measure => have := hjk.out; simp [intOf, hq]; try omega
    · obtain rfl : k = 0 := by omega
      obtain rfl : n = m := by have := HE.out; omega
      clear HE HB
      have d0 := (hbr.cell (p := ⟨s3, 0, none⟩) hs4).trans c0
      have hbw := hw4.trans (hbr.mono hw4.size)
      obtain ⟨a6, n6, c6, z6, rfl, hr6⟩ := HO.out
      clear hr6 c0
      cases sx
      · rcases (show n % 2 = 1 ∨ n % 2 = 0 by omega) with hpar | hpar
        · have hr : (n : Int).tmod 2 = 1 := by rw [Int.tmod_eq_emod_of_nonneg (by omega)]; omega
          have HR : (if false = true then -(X ^ n) else X ^ n) = Z := by have := HPA.out; simp [hpar] at this ⊢; exact this
          go_wp2_with (go_at_call 40; refine (close_n false (.slice a6 n6 c6) (X ^ n) _ HO.out (HLIM.out n (Nat.le_refl _)) (tab_below htab hbw)).mono ?_; rintro e1 w7 ⟨rfl, hb7⟩; rw [HR])
          go_ret2
          exact ⟨rfl, hbw.trans (hb7.mono hbw.size)⟩
        · have hr : (n : Int).tmod 2 = 0 := by rw [Int.tmod_eq_emod_of_nonneg (by omega)]; omega
          have HR : (if false = true then -(X ^ n) else X ^ n) = Z := by have := HPA.out; simp [hpar] at this ⊢; exact this
          go_wp2_with (go_at_call 40; refine (close_n false (.slice a6 n6 c6) (X ^ n) _ HO.out (HLIM.out n (Nat.le_refl _)) (tab_below htab hbw)).mono ?_; rintro e1 w7 ⟨rfl, hb7⟩; rw [HR])
          go_ret2
          exact ⟨rfl, hbw.trans (hb7.mono hbw.size)⟩
      · rcases (show n % 2 = 1 ∨ n % 2 = 0 by omega) with hpar | hpar
        · have hr : (n : Int).tmod 2 = 1 := by rw [Int.tmod_eq_emod_of_nonneg (by omega)]; omega
          have HR : (if true = true then -(X ^ n) else X ^ n) = Z := by have := HPA.out; simp [hpar] at this ⊢; exact this
          go_wp2_with (go_at_call 40; refine (close_n true (.slice a6 n6 c6) (X ^ n) _ HO.out (HLIM.out n (Nat.le_refl _)) (tab_below htab hbw)).mono ?_; rintro e1 w7 ⟨rfl, hb7⟩; rw [HR])
          go_ret2
          exact ⟨rfl, hbw.trans (hb7.mono hbw.size)⟩
        · have hr : (n : Int).tmod 2 = 0 := by rw [Int.tmod_eq_emod_of_nonneg (by omega)]; omega
          have HR : (if false = true then -(X ^ n) else X ^ n) = Z := by have := HPA.out; simp [hpar] at this ⊢; exact this
          go_wp2_with (go_at_call 40; refine (close_n false (.slice a6 n6 c6) (X ^ n) _ HO.out (HLIM.out n (Nat.le_refl _)) (tab_below htab hbw)).mono ?_; rintro e1 w7 ⟨rfl, hb7⟩; rw [HR])
          go_ret2
          exact ⟨rfl, hbw.trans (hb7.mono hbw.size)⟩

end Go.Proofs.YtpmkhichoepdnaaGreatDoor

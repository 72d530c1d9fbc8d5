/- The reference's brief, Add, Sub, Sign, Abs, Compare. -/
import Derived.Test.YtpjknkembghjcaaGreatDoorRefJoined
import Derived.Test.YtpjknkembghjcaaGreatDoorRefLess
import Derived.Test.YtpjknkembghjcaaGreatDoorRefMul
set_option linter.unusedVariables false
set_option linter.unusedSimpArgs false
namespace Go.Proofs.YtpjknkembghjcaaGreatDoor
open Go.RowKit Go.Lib Go.Proofs.YtpjknkembghjcaaGreatDoor.Dec Go.Proofs.YtpjknkembghjcaaGreatDoor.Mag Go.Proofs.YtpjknkembghjcaaGreatDoor.Chunk

/-- What brief answers. -/
def briefIs (x : Int) : Bool := decide ((decDigits x.natAbs).length ≤ 17)
def briefVal (x : Int) : Int := if (decDigits x.natAbs).length ≤ 17 then x else 0
theorem brief_val {x : Int} (h : (decDigits x.natAbs).length ≤ 17) : -100000000000000000 < x ∧ x < 100000000000000000 := by
  have h1 := lt_pow_dec x.natAbs
  have h2 : 10 ^ (decDigits x.natAbs).length ≤ 10 ^ 17 := Nat.pow_le_pow_right (by decide) h
  omega

set_option maxHeartbeats 1000000 in
theorem brief_n (x : Int) (w : World) (hl : (itoa x).length ≤ 1000000) :
    Calls Tryz.prog 41 #[.string ⟨(itoa x).toArray⟩] w fun e w' => e = .returned (.tuple #[.int .i64 (briefVal x), .bool (briefIs x)]) ∧ Below w.heap.size w w' := by
  have hS := Lib.hid (fun w => ref_split_n x w (by omega))
  have hM := Lib.hid (fun w => ref_small_n x w (by omega))
  have hst := str_size (decDigits x.natAbs)
  have lx := digs_len x
  by_cases h : (decDigits x.natAbs).length ≤ 17
  · have hb := brief_val h
    obtain ⟨e1, e2⟩ := small_in (x := x) (by omega)
    rw [e1, e2] at hM
    rw [show briefVal x = x from if_pos h, show briefIs x = true from decide_eq_true h]
    have h' : ¬ (17 : Int) < ((decDigits x.natAbs).length : Int) := by omega
    clear e1 e2
    generalize decDigits x.natAbs = s at *
    go_enter Tryz.func41, Tryz.ntmps41
    go_wp2_with (first
      | (go_at_call 42; refine (hS.out _).mono ?_; rintro e w1 ⟨rfl, h1⟩; have b1 := below_dn h1; clear h1)
      | (go_at_call 47; refine (hM.out _).mono ?_; rintro e w2 ⟨rfl, h2⟩; have b2 := b1.trans (h2.mono b1.size)))
    go_ret2
    exact ⟨rfl, b2⟩
  · rw [show briefVal x = 0 from if_neg h, show briefIs x = false from decide_eq_false h]
    have h' : (17 : Int) < ((decDigits x.natAbs).length : Int) := by omega
    generalize decDigits x.natAbs = s at *
    go_enter Tryz.func41, Tryz.ntmps41
    go_wp2_with (go_at_call 42; refine (hS.out _).mono ?_; rintro e w1 ⟨rfl, h1⟩; have b1 := below_dn h1; clear h1)
    go_ret2
    exact ⟨rfl, b1⟩

theorem sum_pow {a b z K j k : Nat} (ha : a < 10 ^ j) (hb : b < 10 ^ k) (hj : j ≤ K) (hk : k ≤ K) (hz : z ≤ a + b) : z < 10 ^ (K + 1) := by
  have h4 : 10 ^ j ≤ 10 ^ K := Nat.pow_le_pow_right (by decide) hj
  have h5 : 10 ^ k ≤ 10 ^ K := Nat.pow_le_pow_right (by decide) hk
  rw [Nat.pow_succ]
  omega
theorem radd_same {x y : Int} (h : (x < 0) ↔ (y < 0)) : (if decide (x < 0) then -((x.natAbs : Int) + 1 * (y.natAbs : Int)) else (x.natAbs : Int) + 1 * (y.natAbs : Int)) = x + y := by
  by_cases hx : x < 0
  · rw [if_pos (by simpa using hx)]; have := h.1 hx; omega
  · rw [if_neg (by simpa using hx)]; have : ¬ y < 0 := fun e => hx (h.2 e); omega
theorem radd_left {x y : Int} (h : ¬ ((x < 0) ↔ (y < 0))) : (if decide (x < 0) then -((x.natAbs : Int) + -1 * (y.natAbs : Int)) else (x.natAbs : Int) + -1 * (y.natAbs : Int)) = x + y := by
  by_cases hx : x < 0
  · rw [if_pos (by simpa using hx)]; have : ¬ y < 0 := fun e => h (by simp [hx, e]); omega
  · rw [if_neg (by simpa using hx)]; have : y < 0 := by
      rcases Int.lt_or_le y 0 with h1 | h1
      · exact h1
      · exact absurd (by constructor <;> intro <;> omega) h
    omega

set_option maxHeartbeats 1000000 in
set_option maxRecDepth 100000 in
theorem ref_add_quick (x y : Int) (w : World) (hs : (decDigits x.natAbs).length ≤ 17 ∧ (decDigits y.natAbs).length ≤ 17) (hx : (itoa x).length ≤ 100000) (hy : (itoa y).length ≤ 100000) (htab : TabIs Tryz.prog w "internal/strconv.uint64pow10" .u64 pow10Tab) :
    Calls Tryz.prog 16 #[.string ⟨(itoa x).toArray⟩, .string ⟨(itoa y).toArray⟩] w fun e w' => e = .returned (.string ⟨(itoa (x + y)).toArray⟩) ∧ Below w.heap.size w w' := by
  obtain ⟨hs1, hs2⟩ := hs
  have hBx := Lib.hid (fun w => brief_n x w (by omega))
  have hBy := Lib.hid (fun w => brief_n y w (by omega))
  rw [show briefVal x = x from if_pos hs1, show briefIs x = true from decide_eq_true hs1] at hBx
  rw [show briefVal y = y from if_pos hs2, show briefIs y = true from decide_eq_true hs2] at hBy
  obtain ⟨bx1, bx2⟩ := brief_val hs1
  obtain ⟨by1, by2⟩ := brief_val hs2
  have hO := Lib.hid (fun w htab => ref_of_n (x + y) (by omega) (by omega) w htab)
  clear hs1 hs2
  go_enter Tryz.func16, Tryz.ntmps16
  have bd := Below.refl w.heap.size w
  go_wp2_with (first
    | (go_at_call 41; (with_reducible refine (hBx.out _).mono ?_); rintro e w1 ⟨rfl, h1⟩; have bd := bd.trans (h1.mono bd.size))
    | (go_at_call 41; (with_reducible refine (hBy.out _).mono ?_); rintro e w1 ⟨rfl, h1⟩; have bd := bd.trans (h1.mono bd.size))
    | (go_at_call 17; (with_reducible refine (hO.out _ (tab_below htab bd)).mono ?_); rintro e w1 ⟨rfl, h1⟩; have bd := bd.trans (h1.mono bd.size)))
  go_ret
  exact ⟨rfl, bd⟩

set_option maxHeartbeats 2000000 in
set_option maxRecDepth 100000 in
theorem ref_add_long (x y : Int) (w : World) (hs : ¬ ((decDigits x.natAbs).length ≤ 17 ∧ (decDigits y.natAbs).length ≤ 17)) (hx : (itoa x).length ≤ 100000) (hy : (itoa y).length ≤ 100000) (htab : TabIs Tryz.prog w "internal/strconv.uint64pow10" .u64 pow10Tab) :
    Calls Tryz.prog 16 #[.string ⟨(itoa x).toArray⟩, .string ⟨(itoa y).toArray⟩] w fun e w' => e = .returned (.string ⟨(itoa (x + y)).toArray⟩) ∧ Below w.heap.size w w' := by
  have lx := digs_len x
  have ly := digs_len y
  have bx : (x.natAbs : Int) < 10000 ^ 100000 := lt_base (lt_pow_dec x.natAbs) (by omega)
  have bY : (y.natAbs : Int) < 10000 ^ 100000 := lt_base (lt_pow_dec y.natAbs) (by omega)
  have cx : (x.natAbs : Int) < 10000 ^ 400000 := lt_base (lt_pow_dec x.natAbs) (by omega)
  have cy : (y.natAbs : Int) < 10000 ^ 400000 := lt_base (lt_pow_dec y.natAbs) (by omega)
  -- a magnitude of at most 100001 digits
  have key : ∀ z : Int, 0 ≤ z → z ≤ (x.natAbs : Int) + (y.natAbs : Int) → z < 10000 ^ 200000 ∧ (decDigits z.toNat).length ≤ 100000000 := by
    intro z h0 h1
    have h2 := lt_pow_dec x.natAbs
    have h3 := lt_pow_dec y.natAbs
    have h6 := sum_pow (K := 100000) (z := z.toNat) h2 h3 (by omega) (by omega) (by omega)
    have h7 := lt_base (k := 200000) h6 (by omega)
    exact ⟨by rwa [Int.toNat_of_nonneg h0] at h7, Nat.le_trans (dec_len_le (by decide) h6) (by decide)⟩
  have hBx := Lib.hid (fun w => brief_n x w (by omega))
  have hBy := Lib.hid (fun w => brief_n y w (by omega))
  have hSx := Lib.hid (fun w => ref_split_n x w (by omega))
  have hSy := Lib.hid (fun w => ref_split_n y w (by omega))
  have hTx := Lib.hid (fun w => take_n (decDigits x.natAbs) w (dec_all _) (by omega))
  have hTy := Lib.hid (fun w => take_n (decDigits y.natAbs) w (dec_all _) (by omega))
  rw [dval_dec] at hTx hTy
  have hbr : (briefIs x && briefIs y) = false := by
    unfold briefIs
    rw [Bool.and_eq_false_iff]
    by_cases h : (decDigits x.natAbs).length ≤ 17
    · right; exact decide_eq_false (fun e => hs ⟨h, e⟩)
    · left; exact decide_eq_false h
  clear hs
  generalize briefIs x = ix at *
  generalize briefIs y = iy at *
  generalize briefVal x = vx0 at *
  generalize briefVal y = vy0 at *
  by_cases hsg : (x < 0) ↔ (y < 0)
  · have he : (decide (x < 0) == decide (y < 0)) = true := by simp [hsg]
    have hJ := Lib.hid (fun v v' w hx hy => joined_n v v' (x.natAbs : Int) (y.natAbs : Int) 1 w hx hy cx cy (by decide) (by decide) (by omega))
    obtain ⟨k1, k2⟩ := key ((x.natAbs : Int) + 1 * (y.natAbs : Int)) (by omega) (by omega)
    have hM := Lib.hid (fun u w h htab => made_n (decide (x < 0)) u ((x.natAbs : Int) + 1 * (y.natAbs : Int)) w h k1 k2 htab)
    rw [radd_same hsg] at hM
    clear key k1 k2 cx cy bx bY hsg
    generalize decDigits x.natAbs = s at *
    generalize decDigits y.natAbs = t at *
    generalize (x.natAbs : Int) + 1 * (y.natAbs : Int) = J at *
    generalize (x.natAbs : Int) = X at *
    generalize (y.natAbs : Int) = Y at *
    generalize x + y = Z at *
    generalize decide (x < 0) = sx at *
    generalize decide (y < 0) = sy at *
    cases ix <;> cases iy
    case true.true => cases hbr
    all_goals
      go_enter Tryz.func16, Tryz.ntmps16
      have bd := Below.refl w.heap.size w
      go_wp2_with (first
        | (go_at_call 41; (with_reducible refine (hBx.out _).mono ?_); rintro e w1 ⟨rfl, h1⟩; have bd := bd.trans (h1.mono bd.size))
        | (go_at_call 41; (with_reducible refine (hBy.out _).mono ?_); rintro e w1 ⟨rfl, h1⟩; have bd := bd.trans (h1.mono bd.size))
        | (go_at_call 42; (with_reducible refine (hSx.out _).mono ?_); rintro e w1 ⟨rfl, h1⟩; have bd := bd.trans ((below_dn h1).mono bd.size))
        | (go_at_call 42; (with_reducible refine (hSy.out _).mono ?_); rintro e w1 ⟨rfl, h1⟩; have bd := bd.trans ((below_dn h1).mono bd.size))
        | (go_at_call 44; (with_reducible refine (hTx.out _).mono ?_); rintro e w1 ⟨vx, rfl, hm, h1⟩; have HX := Lib.hid hm; clear hm; have bd := bd.trans (h1.mono bd.size))
        | (go_at_call 44; (with_reducible refine (hTy.out _).mono ?_); rintro e w1 ⟨vy, rfl, hm, h1⟩; have HY := Lib.hid hm; clear hm; have HX := Lib.hid (HX.out.below h1); have bd := bd.trans (h1.mono bd.size))
        | (go_at_call 45; (with_reducible refine (hJ.out _ _ _ HX.out HY.out).mono ?_); rintro e w1 ⟨u, rfl, hm, h1⟩; have HU := Lib.hid hm; clear hm; have bd := bd.trans (h1.mono bd.size))
        | (go_at_call 46; (with_reducible refine (hM.out _ _ HU.out (tab_below htab bd)).mono ?_); rintro e w1 ⟨rfl, h1⟩; have bd := bd.trans (h1.mono bd.size)))
      go_ret
      exact ⟨rfl, bd⟩
  · have he : (decide (x < 0) == decide (y < 0)) = false := by
      rw [beq_eq_false_iff_ne]; intro e; apply hsg; constructor
      · intro h; rw [decide_eq_true h] at e; exact of_decide_eq_true e.symm
      · intro h; rw [decide_eq_true h] at e; exact of_decide_eq_true e
    have hL := Lib.hid (fun v v' w hx hy => less_n v v' (x.natAbs : Int) (y.natAbs : Int) w hx hy)
    by_cases hlt : (x.natAbs : Int) < (y.natAbs : Int)
    · have hd : decide ((x.natAbs : Int) < (y.natAbs : Int)) = true := decide_eq_true hlt
      rw [hd] at hL
      have hJ := Lib.hid (fun v v' w hx hy => joined_n v v' (y.natAbs : Int) (x.natAbs : Int) (-1) w hx hy cy cx (by decide) (by decide) (by omega))
      obtain ⟨k1, k2⟩ := key ((y.natAbs : Int) + -1 * (x.natAbs : Int)) (by omega) (by omega)
      have hM := Lib.hid (fun u w h htab => made_n (decide (y < 0)) u ((y.natAbs : Int) + -1 * (x.natAbs : Int)) w h k1 k2 htab)
      rw [radd_left (x := y) (y := x) (fun e => hsg e.symm), Int.add_comm y x] at hM
      clear key k1 k2 cx cy bx bY hsg hlt hd
      generalize decDigits x.natAbs = s at *
      generalize decDigits y.natAbs = t at *
      generalize (y.natAbs : Int) + -1 * (x.natAbs : Int) = J at *
      generalize (x.natAbs : Int) = X at *
      generalize (y.natAbs : Int) = Y at *
      generalize x + y = Z at *
      generalize decide (x < 0) = sx at *
      generalize decide (y < 0) = sy at *
      cases ix <;> cases iy
      case true.true => cases hbr
      all_goals
        go_enter Tryz.func16, Tryz.ntmps16
        have bd := Below.refl w.heap.size w
        go_wp2_with (first
          | (go_at_call 41; (with_reducible refine (hBx.out _).mono ?_); rintro e w1 ⟨rfl, h1⟩; have bd := bd.trans (h1.mono bd.size))
          | (go_at_call 41; (with_reducible refine (hBy.out _).mono ?_); rintro e w1 ⟨rfl, h1⟩; have bd := bd.trans (h1.mono bd.size))
          | (go_at_call 42; (with_reducible refine (hSx.out _).mono ?_); rintro e w1 ⟨rfl, h1⟩; have bd := bd.trans ((below_dn h1).mono bd.size))
          | (go_at_call 42; (with_reducible refine (hSy.out _).mono ?_); rintro e w1 ⟨rfl, h1⟩; have bd := bd.trans ((below_dn h1).mono bd.size))
          | (go_at_call 44; (with_reducible refine (hTx.out _).mono ?_); rintro e w1 ⟨vx, rfl, hm, h1⟩; have HX := Lib.hid hm; clear hm; have bd := bd.trans (h1.mono bd.size))
          | (go_at_call 44; (with_reducible refine (hTy.out _).mono ?_); rintro e w1 ⟨vy, rfl, hm, h1⟩; have HY := Lib.hid hm; clear hm; have HX := Lib.hid (HX.out.below h1); have bd := bd.trans (h1.mono bd.size))
          | (go_at_call 51; (with_reducible refine (hL.out _ _ _ HX.out HY.out).mono ?_); rintro e w1 ⟨rfl, h1⟩; have h1 := below_dn h1; have HX := Lib.hid (HX.out.below h1); have HY := Lib.hid (HY.out.below h1); have bd := bd.trans (h1.mono bd.size))
          | (go_at_call 45; (with_reducible refine (hJ.out _ _ _ HY.out HX.out).mono ?_); rintro e w1 ⟨u, rfl, hm, h1⟩; have HU := Lib.hid hm; clear hm; have bd := bd.trans (h1.mono bd.size))
          | (go_at_call 46; (with_reducible refine (hM.out _ _ HU.out (tab_below htab bd)).mono ?_); rintro e w1 ⟨rfl, h1⟩; have bd := bd.trans (h1.mono bd.size)))
        go_ret
        exact ⟨rfl, bd⟩
    · have hd : decide ((x.natAbs : Int) < (y.natAbs : Int)) = false := decide_eq_false hlt
      rw [hd] at hL
      have hJ := Lib.hid (fun v v' w hx hy => joined_n v v' (x.natAbs : Int) (y.natAbs : Int) (-1) w hx hy cx cy (by decide) (by decide) (by omega))
      obtain ⟨k1, k2⟩ := key ((x.natAbs : Int) + -1 * (y.natAbs : Int)) (by omega) (by omega)
      have hM := Lib.hid (fun u w h htab => made_n (decide (x < 0)) u ((x.natAbs : Int) + -1 * (y.natAbs : Int)) w h k1 k2 htab)
      rw [radd_left hsg] at hM
      clear key k1 k2 cx cy bx bY hsg hlt hd
      generalize decDigits x.natAbs = s at *
      generalize decDigits y.natAbs = t at *
      generalize (x.natAbs : Int) + -1 * (y.natAbs : Int) = J at *
      generalize (x.natAbs : Int) = X at *
      generalize (y.natAbs : Int) = Y at *
      generalize x + y = Z at *
      generalize decide (x < 0) = sx at *
      generalize decide (y < 0) = sy at *
      cases ix <;> cases iy
      case true.true => cases hbr
      all_goals
        go_enter Tryz.func16, Tryz.ntmps16
        have bd := Below.refl w.heap.size w
        go_wp2_with (first
          | (go_at_call 41; (with_reducible refine (hBx.out _).mono ?_); rintro e w1 ⟨rfl, h1⟩; have bd := bd.trans (h1.mono bd.size))
          | (go_at_call 41; (with_reducible refine (hBy.out _).mono ?_); rintro e w1 ⟨rfl, h1⟩; have bd := bd.trans (h1.mono bd.size))
          | (go_at_call 42; (with_reducible refine (hSx.out _).mono ?_); rintro e w1 ⟨rfl, h1⟩; have bd := bd.trans ((below_dn h1).mono bd.size))
          | (go_at_call 42; (with_reducible refine (hSy.out _).mono ?_); rintro e w1 ⟨rfl, h1⟩; have bd := bd.trans ((below_dn h1).mono bd.size))
          | (go_at_call 44; (with_reducible refine (hTx.out _).mono ?_); rintro e w1 ⟨vx, rfl, hm, h1⟩; have HX := Lib.hid hm; clear hm; have bd := bd.trans (h1.mono bd.size))
          | (go_at_call 44; (with_reducible refine (hTy.out _).mono ?_); rintro e w1 ⟨vy, rfl, hm, h1⟩; have HY := Lib.hid hm; clear hm; have HX := Lib.hid (HX.out.below h1); have bd := bd.trans (h1.mono bd.size))
          | (go_at_call 51; (with_reducible refine (hL.out _ _ _ HX.out HY.out).mono ?_); rintro e w1 ⟨rfl, h1⟩; have h1 := below_dn h1; have HX := Lib.hid (HX.out.below h1); have HY := Lib.hid (HY.out.below h1); have bd := bd.trans (h1.mono bd.size))
          | (go_at_call 45; (with_reducible refine (hJ.out _ _ _ HX.out HY.out).mono ?_); rintro e w1 ⟨u, rfl, hm, h1⟩; have HU := Lib.hid hm; clear hm; have bd := bd.trans (h1.mono bd.size))
          | (go_at_call 46; (with_reducible refine (hM.out _ _ HU.out (tab_below htab bd)).mono ?_); rintro e w1 ⟨rfl, h1⟩; have bd := bd.trans (h1.mono bd.size)))
        go_ret
        exact ⟨rfl, bd⟩

/-- The reference's Add. -/
theorem ref_add_n (x y : Int) (w : World) (hx : (itoa x).length ≤ 100000) (hy : (itoa y).length ≤ 100000) (htab : TabIs Tryz.prog w "internal/strconv.uint64pow10" .u64 pow10Tab) :
    Calls Tryz.prog 16 #[.string ⟨(itoa x).toArray⟩, .string ⟨(itoa y).toArray⟩] w fun e w' => e = .returned (.string ⟨(itoa (x + y)).toArray⟩) ∧ Below w.heap.size w w' := by
  by_cases h : (decDigits x.natAbs).length ≤ 17 ∧ (decDigits y.natAbs).length ≤ 17
  · exact ref_add_quick x y w h hx hy htab
  · exact ref_add_long x y w h hx hy htab

set_option maxHeartbeats 1000000 in
theorem ref_sub_n (x y : Int) (w : World) (hx : (itoa x).length ≤ 100000) (hy : (itoa y).length ≤ 99999) (htab : TabIs Tryz.prog w "internal/strconv.uint64pow10" .u64 pow10Tab) :
    Calls Tryz.prog 26 #[.string ⟨(itoa x).toArray⟩, .string ⟨(itoa y).toArray⟩] w fun e w' => e = .returned (.string ⟨(itoa (x - y)).toArray⟩) ∧ Below w.heap.size w w' := by
  have hN := Lib.hid (ref_neg_n y w (by omega))
  have hlen := neg_len hy (by decide)
  have hA := Lib.hid (fun w htab => ref_add_n x (-y) w hx (by omega) htab)
  have he : x + -y = x - y := by omega
  rw [he] at hA
  clear he
  go_enter Tryz.func26, Tryz.ntmps26
  go_wp2_with (first
    | (go_at_call 31; refine hN.out.mono ?_; rintro e w1 ⟨rfl, h1⟩; have b1 := below_dn h1; clear h1)
    | (go_at_call 16; refine (hA.out _ (tab_below htab b1)).mono ?_; rintro e w2 ⟨rfl, hb⟩))
  go_ret
  exact ⟨rfl, b1.trans (hb.mono b1.size)⟩

set_option maxHeartbeats 1000000 in
theorem ref_sign_n (x : Int) (w : World) (hl : (itoa x).length ≤ 1000000) :
    Calls Tryz.prog 19 #[.string ⟨(itoa x).toArray⟩] w fun e w' => e = .returned (.int .i64 x.sign) ∧ Below w.heap.size w w' := by
  have hS := Lib.hid (fun w => ref_split_n x w (by omega))
  rcases Int.lt_trichotomy x 0 with hx | hx | hx
  · rw [show decide (x < 0) = true from decide_eq_true hx] at hS
    rw [Int.sign_eq_neg_one_of_neg hx]
    go_enter Tryz.func19, Tryz.ntmps19
    go_wp2_with (go_at_call 42; refine (hS.out _).mono ?_; rintro e w1 ⟨rfl, h1⟩; have b1 := below_dn h1; clear h1)
    go_ret
    exact ⟨rfl, b1⟩
  · subst hx
    rw [itoa_zero] at hS
    rw [show decide ((0 : Int) < 0) = false by decide] at hS
    rw [itoa_zero]
    go_enter Tryz.func19, Tryz.ntmps19
    go_wp2_with (go_at_call 42; refine (hS.out _).mono ?_; rintro e w1 ⟨rfl, h1⟩; have b1 := below_dn h1; clear h1)
    go_ret
    exact ⟨rfl, b1⟩
  · rw [show decide (x < 0) = false from decide_eq_false (by omega)] at hS
    rw [Int.sign_eq_one_of_pos hx]
    have hz : (itoa x == [48]) = false := by
      rw [beq_eq_false_iff_ne]; intro e; have := itoa_eq_zero.1 e; omega
    go_enter Tryz.func19, Tryz.ntmps19
    go_wp2_with (go_at_call 42; refine (hS.out _).mono ?_; rintro e w1 ⟨rfl, h1⟩; have b1 := below_dn h1; clear h1)
    go_ret
    exact ⟨rfl, b1⟩

set_option maxHeartbeats 1000000 in
theorem ref_abs_n (x : Int) (w : World) (hl : (itoa x).length ≤ 1000000) :
    Calls Tryz.prog 22 #[.string ⟨(itoa x).toArray⟩] w fun e w' => e = .returned (.string ⟨(itoa (x.natAbs : Int)).toArray⟩) ∧ Below w.heap.size w w' := by
  have hS := Lib.hid (fun w => ref_split_n x w (by omega))
  rw [itoa_nat]
  go_enter Tryz.func22, Tryz.ntmps22
  go_wp2_with (go_at_call 42; refine (hS.out _).mono ?_; rintro e w1 ⟨rfl, h1⟩; have b1 := below_dn h1; clear h1)
  go_ret
  exact ⟨rfl, b1⟩

theorem cmpI_sign (x y : Int) : (x - y).sign = cmpI x y := by
  rcases Int.lt_trichotomy x y with h | h | h
  · rw [cmpI_lt h, Int.sign_eq_neg_one_of_neg (by omega)]
  · rw [cmpI_eq h, h, Int.sub_self]; rfl
  · rw [cmpI_gt h, Int.sign_eq_one_of_pos (by omega)]

set_option maxHeartbeats 1000000 in
theorem ref_compare_n (x y : Int) (w : World) (hx : (itoa x).length ≤ 99000) (hy : (itoa y).length ≤ 99000) (htab : TabIs Tryz.prog w "internal/strconv.uint64pow10" .u64 pow10Tab) :
    Calls Tryz.prog 29 #[.string ⟨(itoa x).toArray⟩, .string ⟨(itoa y).toArray⟩] w fun e w' => e = .returned (.int .i64 (cmpI x y)) ∧ Below w.heap.size w w' := by
  have hS := Lib.hid (ref_sub_n x y w (by omega) (by omega) htab)
  have hl := add_len (show (itoa x).length ≤ 99001 by omega) (neg_len hy (by decide))
  rw [show x + -y = x - y by omega] at hl
  have hG := Lib.hid (fun w => ref_sign_n (x - y) w (by omega))
  rw [cmpI_sign] at hG
  go_enter Tryz.func29, Tryz.ntmps29
  go_wp2_with (first
    | (go_at_call 26; refine hS.out.mono ?_; rintro e w1 ⟨rfl, b1⟩)
    | (go_at_call 19; refine (hG.out _).mono ?_; rintro e w2 ⟨rfl, hb⟩))
  go_ret
  exact ⟨rfl, b1.trans (hb.mono b1.size)⟩

end Go.Proofs.YtpjknkembghjcaaGreatDoor

/- IntegerRoots, proved: for any described integer of at most 40 digits, integer.Root returns its root, or ErrRange; and that of a square near it. Conditions: the listed package variables of Go's library hold what the program's text lays (the card ties that). -/
import Derived.Test.YtpjknkembghjcaaGreatDoorDivMod
import Derived.Test.YtpjknkembghjcaaGreatDoorDivide3
import Derived.Test.YtpjknkembghjcaaGreatDoorRoot
import Derived.Test.YtpjknkembghjcaaGreatDoorSub
import Derived.Test.YtpjknkembghjcaaGreatDoorRefCut
import Derived.Test.YtpjknkembghjcaaGreatDoorRefCarry
import Derived.RegionTactic
import Derived.BigRegion
import Derived.Test.YtpjknkembghjcaaGreatDoorRefMul
import Derived.Test.YtpjknkembghjcaaGreatDoorRefTimes
import Derived.Test.YtpjknkembghjcaaGreatDoorLong
import Derived.Deep.RegionHeld3
import Derived.Deep.DeepCutAuto
import Derived.Test.YtpjknkembghjcaaGreatDoorNum
import Derived.Test.YtpjknkembghjcaaGreatDoorKnown
import Derived.Test.YtpjknkembghjcaaGreatDoorMake
import Derived.Test.YtpjknkembghjcaaGreatDoorCompare
import Derived.Test.YtpjknkembghjcaaGreatDoorBaseArgZ2
import Derived.Test.YtpjknkembghjcaaGreatDoorCards
set_option linter.unusedVariables false
namespace Go.Proofs.YtpjknkembghjcaaGreatDoor
open Go.RowKit Go.Lib Go.Proofs.YtpjknkembghjcaaGreatDoor.Dec Go.Proofs.YtpjknkembghjcaaGreatDoor.Mag Go.Proofs.YtpjknkembghjcaaGreatDoor.Chunk

theorem divAt_all {x y : Int} (bx : x < 1000000000 ^ 900000) (p0 : 0 < y) : DivAt x y := by
  intro v v' w hx hy
  have hx0 := hx.nonneg
  by_cases hlt : x < y
  · exact divAt_less hx0 hlt v v' w hx hy
  · by_cases h9 : y < 1000000000
    · exact divAt_piece (lim_of_pow (by decide) bx) p0 h9 v v' w hx hy
    · obtain ⟨a, n, c, xs, rfl, rfl, hc, hr, hp, ht, rfl⟩ := hx
      obtain ⟨a', n', c', ys, rfl, rfl, hc', hr', hp', ht', rfl⟩ := hy
      have hl2 : 2 ≤ ys.length := by
        rcases Nat.lt_or_ge ys.length 2 with h | h
        · have h1 := pv_lt (show (0 : Int) < 1000000000 by decide) hp'
          have h2 : (1000000000 : Int) ^ ys.length ≤ 1000000000 ^ 1 := pow_mono (by decide) (by omega)
          have h3 : (1000000000 : Int) ^ 1 = 1000000000 := by decide
          omega
        · exact h
      exact divide_long_at a a' c c' xs ys w hr hr' (ht.len_le (by decide) hp bx) (ht'.len_le (by decide) hp' (Int.lt_of_le_of_lt (Int.not_lt.1 hlt) bx)) hp hp' ht ht' hc hc' hl2 (Int.not_lt.1 hlt)

end Go.Proofs.YtpjknkembghjcaaGreatDoor

set_option linter.unusedVariables false
namespace Go.Proofs.YtpjknkembghjcaaGreatDoor
open Go.RowKit Go.Lib Go.Proofs.YtpjknkembghjcaaGreatDoor.Dec Go.Proofs.YtpjknkembghjcaaGreatDoor.Mag Go.Proofs.YtpjknkembghjcaaGreatDoor.Chunk

theorem itoa_one : itoa 1 = [49] := by
  rw [Dec.itoa_nonneg (by decide)]
  have h2 := dec_dval (c := 49) (l := []) (AllDig.cons (by decide) AllDig.nil) (Or.inr (by decide))
  have h3 : dval [49] = 1 := by rw [dval_cons, dval_nil]; rfl
  rw [h3] at h2
  rw [show Int.natAbs 1 = 1 from rfl, h2]
theorem len_of_natAbs {x y : Int} {k : Nat} (hk : 1 ≤ k) (hx : (itoa x).length ≤ k) (h : y.natAbs ≤ x.natAbs) : (itoa y).length ≤ k + 1 :=
  itoa_len_of hk (Nat.lt_of_le_of_lt h (natAbs_of_len hx))
theorem root_facts {a : Int} {k : Nat} (hk : 1 ≤ k) (ha : 0 ≤ a) (la : (itoa a).length ≤ k) : ∃ r : Int, 0 ≤ r ∧ r * r ≤ a ∧ a < (r + 1) * (r + 1) ∧ (itoa r).length ≤ k + 1 := by
  obtain ⟨r, h1, h2⟩ := root_exists a.toNat
  have e : ((r * r : Nat) : Int) = (r : Int) * (r : Int) := by simp
  have e2 : (((r + 1) * (r + 1) : Nat) : Int) = ((r : Int) + 1) * ((r : Int) + 1) := by simp
  refine ⟨r, by omega, by omega, by omega, len_of_natAbs hk la ?_⟩
  have : r ≤ r * r := by
    rcases Nat.eq_zero_or_pos r with h | h
    · rw [h]; decide
    · exact Nat.le_mul_of_pos_left r h
  omega
theorem lim_abs {a : Int} {k K : Nat} (la : (itoa a).length ≤ k) (hk : k ≤ K) : (a.natAbs : Int) < (1000000000 : Int) ^ K := by
  have h1 := natAbs_of_len la
  have h2 := pow_mono_base K
  have h3 : (10 : Int) ^ k ≤ (10 : Int) ^ K := pow_mono (by decide) hk
  have h4 : ((10 ^ k : Nat) : Int) = (10 : Int) ^ k := by simp
  omega
theorem lim_nonneg {a : Int} {k K : Nat} (ha : 0 ≤ a) (la : (itoa a).length ≤ k) (hk : k ≤ K) : a < (1000000000 : Int) ^ K := by
  have := lim_abs la hk
  rwa [Int.natAbs_of_nonneg ha] at this
theorem sign_nonneg {a : Int} (h : 0 ≤ a) : 0 ≤ a.sign := by
  rcases Int.lt_or_eq_of_le h with h | h
  · rw [Int.sign_eq_one_of_pos h]; decide
  · rw [← h]; decide
theorem cmp_le {a b : Int} (h : a ≤ b) : ¬ 0 < cmpI a b := by
  rcases Int.lt_or_eq_of_le h with h | h
  · rw [cmpI_lt h]; decide
  · rw [cmpI_eq h]; decide
theorem div_lens {a b : Int} {k j : Nat} (hk : 1 ≤ k) (hj : 1 ≤ j) (hb : b ≠ 0) (la : (itoa a).length ≤ k) (lb : (itoa b).length ≤ j) : (itoa (a / b)).length ≤ k + 2 ∧ (itoa (a % b)).length ≤ j + 1 := by
  constructor
  · refine itoa_len_of (k := k + 1) (by omega) ?_
    have h1 := natAbs_of_len la
    have h2 : (a / b).natAbs ≤ a.natAbs := by first | exact Int.natAbs_div_le_natAbs a b | exact Int.natAbs_ediv_le_natAbs a b
    rw [Nat.pow_succ]; omega
  · refine len_of_natAbs hj lb ?_
    have h1 := Int.emod_nonneg a hb
    have h2 := Int.emod_lt a hb
    omega
end Go.Proofs.YtpjknkembghjcaaGreatDoor

namespace Go.Proofs.YtpjknkembghjcaaGreatDoor
open Go.RowKit Mag

set_option maxHeartbeats 800000 in
theorem less_any (B : Int) (hB : 0 < B) (A A' : Option Addr) (ca cb : Nat) (xs ys : List Int) (w : World) (hx : Rd w .i64 A xs) (hy : Rd w .i64 A' ys)
    (px : Pcs B xs) (py : Pcs B ys) (tx : Trm xs) (ty : Trm ys) :
    Calls Tryz.prog 51 #[.slice A xs.length ca, .slice A' ys.length cb] w fun e w' => e = .returned (.bool (decide (pv B xs < pv B ys))) ∧ ∃ n, w' = w.drewN n := by
  have hlx := hx.1
  have hly := hy.1
  rcases Nat.lt_trichotomy xs.length ys.length with h | h | h
  · have hb : ((xs.length : Int) == (ys.length : Int)) = false := beq_eq_false_iff_ne.2 (by omega)
    have hb' : ((xs.length : Int) != (ys.length : Int)) = true := by rw [bne_iff_ne]; omega
    have HP := Lib.hid (decide_eq_true (lt_of_len hB px py ty h))
    go_enter Tryz.func51, Tryz.ntmps51
    go_wp2
    go_ret
    exact ⟨by rw [HP.out]; first | rfl | simp [*], 0, rfl⟩
  · have HE := Lib.hid h
    have hb : ((xs.length : Int) == (ys.length : Int)) = true := beq_iff_eq.2 (by omega)
    have hb' : ((xs.length : Int) != (ys.length : Int)) = false := by simp [h]
    have h1 : xs.length ≤ ys.length := by omega
    have h2 : ys.length ≤ xs.length := by omega
    clear h
    go_enter Tryz.func51, Tryz.ntmps51
    go_wp2
    go_loopw [5] (fun i wr => ∃ (k n : Nat) (m : Int), k ≤ xs.length ∧ i = .int .i64 m ∧ Hid (m = (k : Int) - 1) ∧ Hid (xs.drop k = ys.drop k) ∧ wr = w.drewN n) (fun i _ => (intOf i + 1).toNat)
    case atStart => exact ⟨xs.length, 0, _, Nat.le_refl _, rfl, Lib.hid rfl, Lib.hid (by rw [List.drop_length, HE.out, List.drop_length]), rfl⟩
    case round =>
      obtain ⟨k, n, m, hk, rfl, hm, hd, rfl⟩ := hrel
      by_cases h0 : 0 < k
      · obtain ⟨j, rfl⟩ : ∃ j, k = j + 1 := ⟨k - 1, by omega⟩
        obtain rfl : m = (j : Int) := by have := hm.out; omega
        obtain ⟨b, off, rfl, _, hc⟩ := hx.2 (by omega)
        obtain ⟨b', off', rfl, _, hc'⟩ := hy.2 (by omega)
        have c1 := hc j (by omega)
        have c2 := hc' j (by omega)
        have j1 : j < xs.length := by omega
        have j2 : j < ys.length := by omega
        clear hc hc' hm
        generalize gx : xs.getD j 0 = x at c1
        generalize gy : ys.getD j 0 = y at c2
        have GX := Lib.hid gx
        have GY := Lib.hid gy
        clear gx gy
        by_cases he : x = y
        · have HD := Lib.hid (getD_drop_eq j1 j2 hd.out (by rw [GX.out, GY.out, he]))
          have e1 : (x != y) = false := by simp [he]
          clear he
          go_wp2
          go_quiet (fail)
          go_wp2
          go_roundw
          case rel => exact ⟨j, n + nq, _, by omega, rfl, Lib.hid rfl, HD, rfl⟩
          case measure => simp [intOf]
        · have e1 : (x != y) = true := by simp [he]
          by_cases hlt : x < y
          · have HP := Lib.hid (decide_eq_true (lt_of_drop hB px py HE.out j j1 hd.out (by rw [GX.out, GY.out]; exact hlt)))
            go_wp2
            go_quiet (fail)
            go_wp2
            go_quiet (fail)
            go_wp2
            go_ret
            exact ⟨by rw [HP.out]; first | rfl | simp [*], _, by rw [World.drewN_drewN, World.drewN_drewN]⟩
          · have HP := Lib.hid (decide_eq_false (Int.not_lt.2 (Int.le_of_lt (lt_of_drop hB py px HE.out.symm j j2 hd.out.symm (by rw [GX.out, GY.out]; omega)))))
            go_wp2
            go_quiet (fail)
            go_wp2
            go_quiet (fail)
            go_wp2
            go_ret
            exact ⟨by rw [HP.out]; first | rfl | simp [*], _, by rw [World.drewN_drewN, World.drewN_drewN]⟩
      · obtain rfl : k = 0 := by omega
        obtain rfl : m = -1 := by have := hm.out; omega
        clear hm
        have HP := Lib.hid (decide_eq_false (show ¬ pv B xs < pv B ys by have := hd.out; simp only [List.drop_zero] at this; rw [this]; omega))
        go_wp2
        go_ret
        exact ⟨by rw [HP.out]; first | rfl | simp [*], n, rfl⟩
  · have hb : ((xs.length : Int) == (ys.length : Int)) = false := beq_eq_false_iff_ne.2 (by omega)
    have hb' : ((xs.length : Int) != (ys.length : Int)) = true := by rw [bne_iff_ne]; omega
    have hn : ¬ xs.length < ys.length := by omega
    have HP := Lib.hid (decide_eq_false (Int.not_lt.2 (Int.le_of_lt (lt_of_len hB py px tx h))))
    go_enter Tryz.func51, Tryz.ntmps51
    go_wp2
    go_ret
    exact ⟨by rw [HP.out]; first | rfl | simp [*], 0, rfl⟩

theorem less_n (v v' : Value) (x y : Int) (w : World) (hx : MgI w v x) (hy : MgI w v' y) :
    Calls Tryz.prog 51 #[v, v'] w fun e w' => e = .returned (.bool (decide (x < y))) ∧ ∃ n, w' = w.drewN n := by
  obtain ⟨a, n, c, xs, rfl, rfl, hc, hr, hp, ht, rfl, _⟩ := hx
  obtain ⟨a', n', c', ys, rfl, rfl, hc', hr', hp', ht', rfl, _⟩ := hy
  exact less_any 10000 (by omega) a a' c c' xs ys w hr hr' hp hp' ht ht'

end Go.Proofs.YtpjknkembghjcaaGreatDoor

set_option linter.unusedVariables false
set_option linter.unusedSimpArgs false
namespace Go.Proofs.YtpjknkembghjcaaGreatDoor
open Go.RowKit Go.Lib Go.Proofs.YtpjknkembghjcaaGreatDoor.Dec Go.Proofs.YtpjknkembghjcaaGreatDoor.Mag Go.Proofs.YtpjknkembghjcaaGreatDoor.Chunk

/-- A slice's length (a measure). -/
def lenOf (v : Value) : Nat := match v with | .slice _ n _ => n | _ => 0
theorem own_some {w : World} {base : Nat} {e : TypeId} {v : Value} {n : Nat} {xs : List Value} (h : w.ownsRow base e 1 v n xs) (h0 : 0 < n) : ∃ g cap, v = .slice (some ⟨g, 0, none⟩) n cap ∧ base ≤ g := by
  rcases h.2 with ⟨rfl, h1⟩ | ⟨g, cap, cur, rfl, hg, _⟩
  · omega
  · exact ⟨g, cap, rfl, hg⟩
theorem own_at {w : World} {base : Nat} {e : TypeId} {v : Value} {n g cap : Nat} {os : List Int} (h : w.ownsRow base e 1 v n (os.map (Value.int .i64))) (hv : v = .slice (some ⟨g, 0, none⟩) n cap) (hl : os.length = n) (j : Nat) (hj : j < n) :
    w.cell? ⟨g, j, none⟩ = some (.int .i64 (os.getD j 0)) := by
  subst hv
  rw [h.cellAt j (by omega), List.getElem?_map, List.getD_eq_getElem?_getD, List.getElem?_eq_getElem (by omega)]; rfl
theorem join_add {k y o T : Int} {os ys : List Int} {j : Nat} (hi : j < os.length) (h : pv 10000 os = T + k * pv 10000 (ys.take j)) (ho : os.getD j 0 = o) (hy : ys.getD j 0 = y) :
    pv 10000 (os.set j (o + k * y)) = T + k * pv 10000 (ys.take (j + 1)) := by
  rw [pv_set _ _ _ _ hi, h, ho, pv_take_any, hy]
  grind
theorem getD_set_any' (l : List Int) (i j : Nat) (x : Int) : (l.set i x).getD j 0 = l.getD j 0 ∨ (j = i ∧ (l.set i x).getD j 0 = x) := by
  by_cases h : i = j
  · subst h
    by_cases hl : i < l.length
    · right; exact ⟨rfl, by simp [List.getD_eq_getElem?_getD, hl]⟩
    · left; rw [List.set_eq_of_length_le (by omega)]
  · left; exact getD_set_other h
theorem pv_zero_end (os : List Int) : pv 10000 (os ++ [0]) = pv 10000 os := by rw [pv_snoc]; simp
theorem getD_zero_end (os : List Int) (j : Nat) : (os ++ [0]).getD j 0 = os.getD j 0 := by
  rw [List.getD_eq_getElem?_getD, List.getD_eq_getElem?_getD]
  rcases Nat.lt_trichotomy j os.length with h | h | h
  · rw [List.getElem?_append_left h]
  · subst h; simp
  · rw [List.getElem?_eq_none (by simp; omega), List.getElem?_eq_none (by omega)]
theorem mul_small {k y : Int} (k0 : -9999 ≤ k) (k1 : k ≤ 9999) (y0 : 0 ≤ y) (y1 : y ≤ 9999) : -99980001 ≤ k * y ∧ k * y ≤ 99980001 := by
  have h1 : k * y ≤ 9999 * y := Int.mul_le_mul_of_nonneg_right k1 y0
  have h2 : -9999 * y ≤ k * y := Int.mul_le_mul_of_nonneg_right k0 y0
  omega

set_option maxHeartbeats 2000000 in
set_option maxRecDepth 100000 in
theorem joined_any (A A' : Option Addr) (ca cb : Nat) (xs ys : List Int) (k : Int) (w : World) (hx : Rd w .i64 A xs) (hy : Rd w .i64 A' ys) (hn : xs.length ≤ 400000) (hm : ys.length ≤ 400000)
    (px : Pcs 10000 xs) (py : Pcs 10000 ys) (hA : A = none → ca = 0) (k0 : -9999 ≤ k) (k1 : k ≤ 9999) (hV : 0 ≤ pv 10000 xs + k * pv 10000 ys) :
    Calls Tryz.prog 45 #[.slice A xs.length ca, .slice A' ys.length cb, .int .i64 k, .int .i64 0] w fun e w' => ∃ v, e = .returned v ∧ MgI w' v (pv 10000 xs + k * pv 10000 ys) ∧ Below w.heap.size w w' := by
  obtain ⟨i0, hi, hz0, hz1, hz2⟩ := info_parts info_i64
  have hlx := hx.1
  go_enter Tryz.func45, Tryz.ntmps45
  go_wp2_with (at_builtin; refine list_append_rd rfl _ _ 62 rfl w.heap.size 3 i0 (.int .i64 0) 8 Tryz.underlying62 hi hz0 hz1 hz2 rfl _ 0 [] rfl (World.ownsRow_lit (e := 3) (size := 1) (base := w.heap.size) w #[] 0 (Nat.le_refl _) (by unfold maxLen; omega) rfl) .i64 A xs.length ca xs rfl (hx.alloc _) rfl hA (by unfold maxLen; omega) (by omega) (by simp) ?_; intro s1 w1 hown1 hgrow1; refine Hid.out ?_)
  refine Lib.hid ?_
  have hnx1 : Below w.heap.size w w1 := ((Below.refl _ _).alloc (Nat.le_refl _) _).grown hgrow1 (by simp) (fun j e => by cases e; exact Nat.le_refl _)
  have hown2 : w1.ownsRow w.heap.size 3 1 s1 xs.length (xs.map (Value.int .i64)) := by simpa using hown1
  clear hown1 hgrow1
  go_wp2_with fail
  go_loopw [9, 10] (fun sv iv wr => ∃ (q : Nat) (os : List Int), iv = .int .i64 q ∧ q ≤ ys.length ∧ wr.ownsRow w.heap.size 3 1 sv os.length (os.map (Value.int .i64)) ∧ os.length ≤ xs.length + q ∧
      Hid (pv 10000 os = pv 10000 xs + k * pv 10000 (ys.take q)) ∧ Hid (∀ j, -1000000000 ≤ os.getD j 0 ∧ os.getD j 0 ≤ 1000000000) ∧ Hid (∀ j, q ≤ j → 0 ≤ os.getD j 0 ∧ os.getD j 0 < 10000) ∧ Below w.heap.size w wr) (fun _ i _ => ys.length - (intOf i).toNat)
  case atStart => exact ⟨0, xs, rfl, Nat.zero_le _, hown2, by omega, Lib.hid (by simp [pv]), Lib.hid (fun j => by have := px.at (by omega) j; omega), Lib.hid (fun j _ => px.at (by omega) j), hnx1⟩
  case round =>
    obtain ⟨q, os, rfl, hq, hown, hol, HV, HZ, HY, hnx⟩ := hrel
    obtain ⟨wo, rfl⟩ : ∃ wo : World, wo = wr := ⟨_, rfl⟩
    by_cases hlq : q < ys.length
    · obtain ⟨b', off', rfl, hbw', hc'⟩ := hy.2 (by omega)
      have HCQ := Lib.hid (hc' q hlq)
      have y1 := py.at (by omega) q
      clear hc'
      generalize gy : ys.getD q 0 = y at HCQ y1
      have GY := Lib.hid gy
      clear gy
      obtain ⟨y0, y1⟩ := y1
      go_wp2_with fail
      go_loopw [9] (fun sv wr => ∃ (os : List Int), wr.ownsRow w.heap.size 3 1 sv os.length (os.map (Value.int .i64)) ∧ os.length ≤ xs.length + q + 1 ∧
          Hid (pv 10000 os = pv 10000 xs + k * pv 10000 (ys.take q)) ∧ Hid (∀ j, -1000000000 ≤ os.getD j 0 ∧ os.getD j 0 ≤ 1000000000) ∧ Hid (∀ j, q ≤ j → 0 ≤ os.getD j 0 ∧ os.getD j 0 < 10000) ∧ Below w.heap.size w wr) (fun s _ => q + 1 - lenOf s)
      case atStart => exact ⟨os, hown, by omega, HV, HZ, HY, hnx⟩
      case round =>
        clear hown hol HV HZ HY hnx
        obtain ⟨os, hown, hol, HV, HZ, HY, hnx⟩ := hrel
        obtain ⟨wi, rfl⟩ : ∃ wi : World, wi = wr := ⟨_, rfl⟩
        obtain ⟨Av, cv, rfl, hcv, hrd, hpl, hAB, hAn⟩ := Rd.of_own_any hown (by omega)
        by_cases hle : os.length ≤ q
        · clear hrd hAB hAn
          go_wp2_with (at_builtin; refine list_append_rd rfl _ _ 62 rfl w.heap.size 3 i0 (.int .i64 0) 8 Tryz.underlying62 hi hz0 hz1 hz2 rfl _ _ _ rfl (hown.alloc _) .i64 (some ⟨wi.heap.size, 0, none⟩) 1 1 [0] rfl (Rd.lit1 wi 3 .i64 _) rfl (fun e => by cases e) (by unfold maxLen; omega) (by omega) (by have := hnx.size; simp; omega) ?_; intro s2 w2 hown2 hgrow2; refine Hid.out ?_)
          refine Lib.hid ?_
          have hb2 : Below w.heap.size w w2 := (hnx.alloc hnx.size _).grown hgrow2 (by have := hnx.size; simp; omega) (fun j e => (hown.lt j e).1)
          obtain ⟨g2, c2, rfl, _⟩ := own_some hown2 (by omega)
          clear hgrow2 hown hnx
          go_wp2_with fail
          go_roundw
          case rel => exact ⟨os ++ [0], by simpa using hown2, by simp; omega, Lib.hid ((pv_zero_end os).trans HV.out), Lib.hid (fun j => by rw [getD_zero_end]; exact HZ.out j), Lib.hid (fun j hj => by rw [getD_zero_end]; exact HY.out j hj), hb2⟩
          case measure => simp [lenOf]; omega
        · have hle' : ¬ (os.length : Int) ≤ (q : Int) := by omega
          obtain ⟨g, cap, e1, hg⟩ := own_some hown (by omega)
          cases e1
          have c1 := (hnx.cell (p := ⟨b', off' + q, none⟩) hbw').trans HCQ.out
          have c3 := own_at hown rfl rfl q (by omega)
          have f3 := hown.frozenAt q
          have o1 := HY.out q (Nat.le_refl _)
          generalize go : os.getD q 0 = o at c3 o1
          have GO := Lib.hid go
          clear go
          obtain ⟨o0, o1⟩ := o1
          obtain ⟨m0, m1⟩ := mul_small k0 k1 y0 (show y ≤ 9999 by omega)
          have HV2 := Lib.hid (join_add (by omega) HV.out GO.out GY.out)
          have HZ2 := Lib.hid (show ∀ j, -1000000000 ≤ (os.set q (o + k * y)).getD j 0 ∧ (os.set q (o + k * y)).getD j 0 ≤ 1000000000 from fun j => by
            rcases getD_set_any' os q j (o + k * y) with h | ⟨_, h⟩
            · rw [h]; exact HZ.out j
            · rw [h]; constructor <;> omega)
          have HY2 := Lib.hid (show ∀ j, q + 1 ≤ j → 0 ≤ (os.set q (o + k * y)).getD j 0 ∧ (os.set q (o + k * y)).getD j 0 < 10000 from fun j hj => by
            rw [getD_set_other (by omega)]; exact HY.out j (by omega))
          have HO2 := Lib.hid (hown.stored q (.int .i64 (o + k * y))).1
          have HB2 := Lib.hid (hnx.setCell (p := ⟨g, q, none⟩) hg (.int .i64 (o + k * y)))
          have hql : q < os.length := by omega
          clear HV HZ HY hown hrd hAB hAn hnx GO GY
          go_wp2_with fail
          go_region
          all_goals
            go_wp2_with fail
            go_roundw
            case rel => exact ⟨q + 1, os.set q (o + k * y), rfl, by omega, by rw [List.map_set, List.length_set]; exact HO2.out, by simp; omega, HV2, HZ2, HY2, HB2.out.drew⟩
            case measure => simp [intOf]; omega
    · obtain rfl : q = ys.length := by omega
      rw [List.take_length] at HV
      obtain ⟨Av, cv, rfl, hcv, hrd, hpl, hAB, hAn⟩ := Rd.of_own_any hown (by omega)
      have hC := Lib.hid (carry_any Av cv os wo hrd (by omega) (fun j => by have := HZ.out j; omega) (by rw [HV.out]; exact hV))
      rw [HV.out] at hC
      clear HV HZ HY hown hrd hAB hAn
      go_wp2_with fail
      refine hC.out.mono ?_
      rintro e w' ⟨v, rfl, hM, hb⟩
      go_wp2
      go_ret
      exact ⟨_, rfl, hM, hnx.trans (hb.mono hnx.size)⟩

/-- The reference's joined on magnitudes. -/
theorem joined_n (v v' : Value) (x y k : Int) (w : World) (hx : MgI w v x) (hy : MgI w v' y) (bx : x < 10000 ^ 400000) (bY : y < 10000 ^ 400000) (k0 : -9999 ≤ k) (k1 : k ≤ 9999) (hV : 0 ≤ x + k * y) :
    Calls Tryz.prog 45 #[v, v', .int .i64 k, .int .i64 0] w fun e w' => ∃ u, e = .returned u ∧ MgI w' u (x + k * y) ∧ Below w.heap.size w w' := by
  obtain ⟨a, n, c, xs, rfl, rfl, hc, hr, hp, ht, rfl, hA⟩ := hx
  obtain ⟨a', n', c', ys, rfl, rfl, hc', hr', hp', ht', rfl, _⟩ := hy
  exact joined_any a a' c c' xs ys k w hr hr' (ht.len_le (by decide) hp bx) (ht'.len_le (by decide) hp' bY) hp hp' hA k0 k1 hV

end Go.Proofs.YtpjknkembghjcaaGreatDoor

set_option linter.unusedVariables false
set_option linter.unusedSimpArgs false
namespace Go.Proofs.YtpjknkembghjcaaGreatDoor
open Go.RowKit Go.Lib Go.Proofs.YtpjknkembghjcaaGreatDoor.Dec Go.Proofs.YtpjknkembghjcaaGreatDoor.Mag Go.Proofs.YtpjknkembghjcaaGreatDoor.Chunk

/-- What brief answers. -/
def briefIs (x : Int) : Bool := decide ((decDigits x.natAbs).length ≤ 17)
def briefVal (x : Int) : Int := if (decDigits x.natAbs).length ≤ 17 then x else 0
theorem brief_val {x : Int} (h : (decDigits x.natAbs).length ≤ 17) : -100000000000000000 < x ∧ x < 100000000000000000 := by
  have h1 := lt_pow_dec x.natAbs
  have h2 : 10 ^ (decDigits x.natAbs).length ≤ 10 ^ 17 := Nat.pow_le_pow_right (by decide) h
  omega

set_option maxHeartbeats 1000000 in
theorem brief_n (x : Int) (w : World) (hl : (itoa x).length ≤ 1000000) :
    Calls Tryz.prog 41 #[.string ⟨(itoa x).toArray⟩] w fun e w' => e = .returned (.tuple #[.int .i64 (briefVal x), .bool (briefIs x)]) ∧ Below w.heap.size w w' := by
  have hS := Lib.hid (fun w => ref_split_n x w (by omega))
  have hM := Lib.hid (fun w => ref_small_n x w (by omega))
  have hst := str_size (decDigits x.natAbs)
  have lx := digs_len x
  by_cases h : (decDigits x.natAbs).length ≤ 17
  · have hb := brief_val h
    obtain ⟨e1, e2⟩ := small_in (x := x) (by omega)
    rw [e1, e2] at hM
    rw [show briefVal x = x from if_pos h, show briefIs x = true from decide_eq_true h]
    have h' : ¬ (17 : Int) < ((decDigits x.natAbs).length : Int) := by omega
    clear e1 e2
    generalize decDigits x.natAbs = s at *
    go_enter Tryz.func41, Tryz.ntmps41
    go_wp2_with (first
      | (go_at_call 42; refine (hS.out _).mono ?_; rintro e w1 ⟨rfl, h1⟩; have b1 := below_dn h1; clear h1)
      | (go_at_call 47; refine (hM.out _).mono ?_; rintro e w2 ⟨rfl, h2⟩; have b2 := b1.trans (h2.mono b1.size)))
    go_ret2
    exact ⟨rfl, b2⟩
  · rw [show briefVal x = 0 from if_neg h, show briefIs x = false from decide_eq_false h]
    have h' : (17 : Int) < ((decDigits x.natAbs).length : Int) := by omega
    generalize decDigits x.natAbs = s at *
    go_enter Tryz.func41, Tryz.ntmps41
    go_wp2_with (go_at_call 42; refine (hS.out _).mono ?_; rintro e w1 ⟨rfl, h1⟩; have b1 := below_dn h1; clear h1)
    go_ret2
    exact ⟨rfl, b1⟩

theorem sum_pow {a b z K j k : Nat} (ha : a < 10 ^ j) (hb : b < 10 ^ k) (hj : j ≤ K) (hk : k ≤ K) (hz : z ≤ a + b) : z < 10 ^ (K + 1) := by
  have h4 : 10 ^ j ≤ 10 ^ K := Nat.pow_le_pow_right (by decide) hj
  have h5 : 10 ^ k ≤ 10 ^ K := Nat.pow_le_pow_right (by decide) hk
  rw [Nat.pow_succ]
  omega
theorem radd_same {x y : Int} (h : (x < 0) ↔ (y < 0)) : (if decide (x < 0) then -((x.natAbs : Int) + 1 * (y.natAbs : Int)) else (x.natAbs : Int) + 1 * (y.natAbs : Int)) = x + y := by
  by_cases hx : x < 0
  · rw [if_pos (by simpa using hx)]; have := h.1 hx; omega
  · rw [if_neg (by simpa using hx)]; have : ¬ y < 0 := fun e => hx (h.2 e); omega
theorem radd_left {x y : Int} (h : ¬ ((x < 0) ↔ (y < 0))) : (if decide (x < 0) then -((x.natAbs : Int) + -1 * (y.natAbs : Int)) else (x.natAbs : Int) + -1 * (y.natAbs : Int)) = x + y := by
  by_cases hx : x < 0
  · rw [if_pos (by simpa using hx)]; have : ¬ y < 0 := fun e => h (by simp [hx, e]); omega
  · rw [if_neg (by simpa using hx)]; have : y < 0 := by
      rcases Int.lt_or_le y 0 with h1 | h1
      · exact h1
      · exact absurd (by constructor <;> intro <;> omega) h
    omega

set_option maxHeartbeats 1000000 in
set_option maxRecDepth 100000 in
theorem ref_add_quick (x y : Int) (w : World) (hs : (decDigits x.natAbs).length ≤ 17 ∧ (decDigits y.natAbs).length ≤ 17) (hx : (itoa x).length ≤ 100000) (hy : (itoa y).length ≤ 100000) (htab : TabIs Tryz.prog w "internal/strconv.uint64pow10" .u64 pow10Tab) :
    Calls Tryz.prog 16 #[.string ⟨(itoa x).toArray⟩, .string ⟨(itoa y).toArray⟩] w fun e w' => e = .returned (.string ⟨(itoa (x + y)).toArray⟩) ∧ Below w.heap.size w w' := by
  obtain ⟨hs1, hs2⟩ := hs
  have hBx := Lib.hid (fun w => brief_n x w (by omega))
  have hBy := Lib.hid (fun w => brief_n y w (by omega))
  rw [show briefVal x = x from if_pos hs1, show briefIs x = true from decide_eq_true hs1] at hBx
  rw [show briefVal y = y from if_pos hs2, show briefIs y = true from decide_eq_true hs2] at hBy
  obtain ⟨bx1, bx2⟩ := brief_val hs1
  obtain ⟨by1, by2⟩ := brief_val hs2
  have hO := Lib.hid (fun w htab => ref_of_n (x + y) (by omega) (by omega) w htab)
  clear hs1 hs2
  go_enter Tryz.func16, Tryz.ntmps16
  have bd := Below.refl w.heap.size w
  go_wp2_with (first
    | (go_at_call 41; (with_reducible refine (hBx.out _).mono ?_); rintro e w1 ⟨rfl, h1⟩; have bd := bd.trans (h1.mono bd.size))
    | (go_at_call 41; (with_reducible refine (hBy.out _).mono ?_); rintro e w1 ⟨rfl, h1⟩; have bd := bd.trans (h1.mono bd.size))
    | (go_at_call 17; (with_reducible refine (hO.out _ (tab_below htab bd)).mono ?_); rintro e w1 ⟨rfl, h1⟩; have bd := bd.trans (h1.mono bd.size)))
  go_ret
  exact ⟨rfl, bd⟩

set_option maxHeartbeats 2000000 in
set_option maxRecDepth 100000 in
theorem ref_add_long (x y : Int) (w : World) (hs : ¬ ((decDigits x.natAbs).length ≤ 17 ∧ (decDigits y.natAbs).length ≤ 17)) (hx : (itoa x).length ≤ 100000) (hy : (itoa y).length ≤ 100000) (htab : TabIs Tryz.prog w "internal/strconv.uint64pow10" .u64 pow10Tab) :
    Calls Tryz.prog 16 #[.string ⟨(itoa x).toArray⟩, .string ⟨(itoa y).toArray⟩] w fun e w' => e = .returned (.string ⟨(itoa (x + y)).toArray⟩) ∧ Below w.heap.size w w' := by
  have lx := digs_len x
  have ly := digs_len y
  have bx : (x.natAbs : Int) < 10000 ^ 100000 := lt_base (lt_pow_dec x.natAbs) (by omega)
  have bY : (y.natAbs : Int) < 10000 ^ 100000 := lt_base (lt_pow_dec y.natAbs) (by omega)
  have cx : (x.natAbs : Int) < 10000 ^ 400000 := lt_base (lt_pow_dec x.natAbs) (by omega)
  have cy : (y.natAbs : Int) < 10000 ^ 400000 := lt_base (lt_pow_dec y.natAbs) (by omega)
  -- a magnitude of at most 100001 digits
  have key : ∀ z : Int, 0 ≤ z → z ≤ (x.natAbs : Int) + (y.natAbs : Int) → z < 10000 ^ 200000 ∧ (decDigits z.toNat).length ≤ 100000000 := by
    intro z h0 h1
    have h2 := lt_pow_dec x.natAbs
    have h3 := lt_pow_dec y.natAbs
    have h6 := sum_pow (K := 100000) (z := z.toNat) h2 h3 (by omega) (by omega) (by omega)
    have h7 := lt_base (k := 200000) h6 (by omega)
    exact ⟨by rwa [Int.toNat_of_nonneg h0] at h7, Nat.le_trans (dec_len_le (by decide) h6) (by decide)⟩
  have hBx := Lib.hid (fun w => brief_n x w (by omega))
  have hBy := Lib.hid (fun w => brief_n y w (by omega))
  have hSx := Lib.hid (fun w => ref_split_n x w (by omega))
  have hSy := Lib.hid (fun w => ref_split_n y w (by omega))
  have hTx := Lib.hid (fun w => take_n (decDigits x.natAbs) w (dec_all _) (by omega))
  have hTy := Lib.hid (fun w => take_n (decDigits y.natAbs) w (dec_all _) (by omega))
  rw [dval_dec] at hTx hTy
  have hbr : (briefIs x && briefIs y) = false := by
    unfold briefIs
    rw [Bool.and_eq_false_iff]
    by_cases h : (decDigits x.natAbs).length ≤ 17
    · right; exact decide_eq_false (fun e => hs ⟨h, e⟩)
    · left; exact decide_eq_false h
  clear hs
  generalize briefIs x = ix at *
  generalize briefIs y = iy at *
  generalize briefVal x = vx0 at *
  generalize briefVal y = vy0 at *
  by_cases hsg : (x < 0) ↔ (y < 0)
  · have he : (decide (x < 0) == decide (y < 0)) = true := by simp [hsg]
    have hJ := Lib.hid (fun v v' w hx hy => joined_n v v' (x.natAbs : Int) (y.natAbs : Int) 1 w hx hy cx cy (by decide) (by decide) (by omega))
    obtain ⟨k1, k2⟩ := key ((x.natAbs : Int) + 1 * (y.natAbs : Int)) (by omega) (by omega)
    have hM := Lib.hid (fun u w h htab => made_n (decide (x < 0)) u ((x.natAbs : Int) + 1 * (y.natAbs : Int)) w h k1 k2 htab)
    rw [radd_same hsg] at hM
    clear key k1 k2 cx cy bx bY hsg
    generalize decDigits x.natAbs = s at *
    generalize decDigits y.natAbs = t at *
    generalize (x.natAbs : Int) + 1 * (y.natAbs : Int) = J at *
    generalize (x.natAbs : Int) = X at *
    generalize (y.natAbs : Int) = Y at *
    generalize x + y = Z at *
    generalize decide (x < 0) = sx at *
    generalize decide (y < 0) = sy at *
    cases ix <;> cases iy
    case true.true => cases hbr
    all_goals
      go_enter Tryz.func16, Tryz.ntmps16
      have bd := Below.refl w.heap.size w
      go_wp2_with (first
        | (go_at_call 41; (with_reducible refine (hBx.out _).mono ?_); rintro e w1 ⟨rfl, h1⟩; have bd := bd.trans (h1.mono bd.size))
        | (go_at_call 41; (with_reducible refine (hBy.out _).mono ?_); rintro e w1 ⟨rfl, h1⟩; have bd := bd.trans (h1.mono bd.size))
        | (go_at_call 42; (with_reducible refine (hSx.out _).mono ?_); rintro e w1 ⟨rfl, h1⟩; have bd := bd.trans ((below_dn h1).mono bd.size))
        | (go_at_call 42; (with_reducible refine (hSy.out _).mono ?_); rintro e w1 ⟨rfl, h1⟩; have bd := bd.trans ((below_dn h1).mono bd.size))
        | (go_at_call 44; (with_reducible refine (hTx.out _).mono ?_); rintro e w1 ⟨vx, rfl, hm, h1⟩; have HX := Lib.hid hm; clear hm; have bd := bd.trans (h1.mono bd.size))
        | (go_at_call 44; (with_reducible refine (hTy.out _).mono ?_); rintro e w1 ⟨vy, rfl, hm, h1⟩; have HY := Lib.hid hm; clear hm; have HX := Lib.hid (HX.out.below h1); have bd := bd.trans (h1.mono bd.size))
        | (go_at_call 45; (with_reducible refine (hJ.out _ _ _ HX.out HY.out).mono ?_); rintro e w1 ⟨u, rfl, hm, h1⟩; have HU := Lib.hid hm; clear hm; have bd := bd.trans (h1.mono bd.size))
        | (go_at_call 46; (with_reducible refine (hM.out _ _ HU.out (tab_below htab bd)).mono ?_); rintro e w1 ⟨rfl, h1⟩; have bd := bd.trans (h1.mono bd.size)))
      go_ret
      exact ⟨rfl, bd⟩
  · have he : (decide (x < 0) == decide (y < 0)) = false := by
      rw [beq_eq_false_iff_ne]; intro e; apply hsg; constructor
      · intro h; rw [decide_eq_true h] at e; exact of_decide_eq_true e.symm
      · intro h; rw [decide_eq_true h] at e; exact of_decide_eq_true e
    have hL := Lib.hid (fun v v' w hx hy => less_n v v' (x.natAbs : Int) (y.natAbs : Int) w hx hy)
    by_cases hlt : (x.natAbs : Int) < (y.natAbs : Int)
    · have hd : decide ((x.natAbs : Int) < (y.natAbs : Int)) = true := decide_eq_true hlt
      rw [hd] at hL
      have hJ := Lib.hid (fun v v' w hx hy => joined_n v v' (y.natAbs : Int) (x.natAbs : Int) (-1) w hx hy cy cx (by decide) (by decide) (by omega))
      obtain ⟨k1, k2⟩ := key ((y.natAbs : Int) + -1 * (x.natAbs : Int)) (by omega) (by omega)
      have hM := Lib.hid (fun u w h htab => made_n (decide (y < 0)) u ((y.natAbs : Int) + -1 * (x.natAbs : Int)) w h k1 k2 htab)
      rw [radd_left (x := y) (y := x) (fun e => hsg e.symm), Int.add_comm y x] at hM
      clear key k1 k2 cx cy bx bY hsg hlt hd
      generalize decDigits x.natAbs = s at *
      generalize decDigits y.natAbs = t at *
      generalize (y.natAbs : Int) + -1 * (x.natAbs : Int) = J at *
      generalize (x.natAbs : Int) = X at *
      generalize (y.natAbs : Int) = Y at *
      generalize x + y = Z at *
      generalize decide (x < 0) = sx at *
      generalize decide (y < 0) = sy at *
      cases ix <;> cases iy
      case true.true => cases hbr
      all_goals
        go_enter Tryz.func16, Tryz.ntmps16
        have bd := Below.refl w.heap.size w
        go_wp2_with (first
          | (go_at_call 41; (with_reducible refine (hBx.out _).mono ?_); rintro e w1 ⟨rfl, h1⟩; have bd := bd.trans (h1.mono bd.size))
          | (go_at_call 41; (with_reducible refine (hBy.out _).mono ?_); rintro e w1 ⟨rfl, h1⟩; have bd := bd.trans (h1.mono bd.size))
          | (go_at_call 42; (with_reducible refine (hSx.out _).mono ?_); rintro e w1 ⟨rfl, h1⟩; have bd := bd.trans ((below_dn h1).mono bd.size))
          | (go_at_call 42; (with_reducible refine (hSy.out _).mono ?_); rintro e w1 ⟨rfl, h1⟩; have bd := bd.trans ((below_dn h1).mono bd.size))
          | (go_at_call 44; (with_reducible refine (hTx.out _).mono ?_); rintro e w1 ⟨vx, rfl, hm, h1⟩; have HX := Lib.hid hm; clear hm; have bd := bd.trans (h1.mono bd.size))
          | (go_at_call 44; (with_reducible refine (hTy.out _).mono ?_); rintro e w1 ⟨vy, rfl, hm, h1⟩; have HY := Lib.hid hm; clear hm; have HX := Lib.hid (HX.out.below h1); have bd := bd.trans (h1.mono bd.size))
          | (go_at_call 51; (with_reducible refine (hL.out _ _ _ HX.out HY.out).mono ?_); rintro e w1 ⟨rfl, h1⟩; have h1 := below_dn h1; have HX := Lib.hid (HX.out.below h1); have HY := Lib.hid (HY.out.below h1); have bd := bd.trans (h1.mono bd.size))
          | (go_at_call 45; (with_reducible refine (hJ.out _ _ _ HY.out HX.out).mono ?_); rintro e w1 ⟨u, rfl, hm, h1⟩; have HU := Lib.hid hm; clear hm; have bd := bd.trans (h1.mono bd.size))
          | (go_at_call 46; (with_reducible refine (hM.out _ _ HU.out (tab_below htab bd)).mono ?_); rintro e w1 ⟨rfl, h1⟩; have bd := bd.trans (h1.mono bd.size)))
        go_ret
        exact ⟨rfl, bd⟩
    · have hd : decide ((x.natAbs : Int) < (y.natAbs : Int)) = false := decide_eq_false hlt
      rw [hd] at hL
      have hJ := Lib.hid (fun v v' w hx hy => joined_n v v' (x.natAbs : Int) (y.natAbs : Int) (-1) w hx hy cx cy (by decide) (by decide) (by omega))
      obtain ⟨k1, k2⟩ := key ((x.natAbs : Int) + -1 * (y.natAbs : Int)) (by omega) (by omega)
      have hM := Lib.hid (fun u w h htab => made_n (decide (x < 0)) u ((x.natAbs : Int) + -1 * (y.natAbs : Int)) w h k1 k2 htab)
      rw [radd_left hsg] at hM
      clear key k1 k2 cx cy bx bY hsg hlt hd
      generalize decDigits x.natAbs = s at *
      generalize decDigits y.natAbs = t at *
      generalize (x.natAbs : Int) + -1 * (y.natAbs : Int) = J at *
      generalize (x.natAbs : Int) = X at *
      generalize (y.natAbs : Int) = Y at *
      generalize x + y = Z at *
      generalize decide (x < 0) = sx at *
      generalize decide (y < 0) = sy at *
      cases ix <;> cases iy
      case true.true => cases hbr
      all_goals
        go_enter Tryz.func16, Tryz.ntmps16
        have bd := Below.refl w.heap.size w
        go_wp2_with (first
          | (go_at_call 41; (with_reducible refine (hBx.out _).mono ?_); rintro e w1 ⟨rfl, h1⟩; have bd := bd.trans (h1.mono bd.size))
          | (go_at_call 41; (with_reducible refine (hBy.out _).mono ?_); rintro e w1 ⟨rfl, h1⟩; have bd := bd.trans (h1.mono bd.size))
          | (go_at_call 42; (with_reducible refine (hSx.out _).mono ?_); rintro e w1 ⟨rfl, h1⟩; have bd := bd.trans ((below_dn h1).mono bd.size))
          | (go_at_call 42; (with_reducible refine (hSy.out _).mono ?_); rintro e w1 ⟨rfl, h1⟩; have bd := bd.trans ((below_dn h1).mono bd.size))
          | (go_at_call 44; (with_reducible refine (hTx.out _).mono ?_); rintro e w1 ⟨vx, rfl, hm, h1⟩; have HX := Lib.hid hm; clear hm; have bd := bd.trans (h1.mono bd.size))
          | (go_at_call 44; (with_reducible refine (hTy.out _).mono ?_); rintro e w1 ⟨vy, rfl, hm, h1⟩; have HY := Lib.hid hm; clear hm; have HX := Lib.hid (HX.out.below h1); have bd := bd.trans (h1.mono bd.size))
          | (go_at_call 51; (with_reducible refine (hL.out _ _ _ HX.out HY.out).mono ?_); rintro e w1 ⟨rfl, h1⟩; have h1 := below_dn h1; have HX := Lib.hid (HX.out.below h1); have HY := Lib.hid (HY.out.below h1); have bd := bd.trans (h1.mono bd.size))
          | (go_at_call 45; (with_reducible refine (hJ.out _ _ _ HX.out HY.out).mono ?_); rintro e w1 ⟨u, rfl, hm, h1⟩; have HU := Lib.hid hm; clear hm; have bd := bd.trans (h1.mono bd.size))
          | (go_at_call 46; (with_reducible refine (hM.out _ _ HU.out (tab_below htab bd)).mono ?_); rintro e w1 ⟨rfl, h1⟩; have bd := bd.trans (h1.mono bd.size)))
        go_ret
        exact ⟨rfl, bd⟩

/-- The reference's Add. -/
theorem ref_add_n (x y : Int) (w : World) (hx : (itoa x).length ≤ 100000) (hy : (itoa y).length ≤ 100000) (htab : TabIs Tryz.prog w "internal/strconv.uint64pow10" .u64 pow10Tab) :
    Calls Tryz.prog 16 #[.string ⟨(itoa x).toArray⟩, .string ⟨(itoa y).toArray⟩] w fun e w' => e = .returned (.string ⟨(itoa (x + y)).toArray⟩) ∧ Below w.heap.size w w' := by
  by_cases h : (decDigits x.natAbs).length ≤ 17 ∧ (decDigits y.natAbs).length ≤ 17
  · exact ref_add_quick x y w h hx hy htab
  · exact ref_add_long x y w h hx hy htab

set_option maxHeartbeats 1000000 in
theorem ref_sub_n (x y : Int) (w : World) (hx : (itoa x).length ≤ 100000) (hy : (itoa y).length ≤ 99999) (htab : TabIs Tryz.prog w "internal/strconv.uint64pow10" .u64 pow10Tab) :
    Calls Tryz.prog 26 #[.string ⟨(itoa x).toArray⟩, .string ⟨(itoa y).toArray⟩] w fun e w' => e = .returned (.string ⟨(itoa (x - y)).toArray⟩) ∧ Below w.heap.size w w' := by
  have hN := Lib.hid (ref_neg_n y w (by omega))
  have hlen := neg_len hy (by decide)
  have hA := Lib.hid (fun w htab => ref_add_n x (-y) w hx (by omega) htab)
  have he : x + -y = x - y := by omega
  rw [he] at hA
  clear he
  go_enter Tryz.func26, Tryz.ntmps26
  go_wp2_with (first
    | (go_at_call 31; refine hN.out.mono ?_; rintro e w1 ⟨rfl, h1⟩; have b1 := below_dn h1; clear h1)
    | (go_at_call 16; refine (hA.out _ (tab_below htab b1)).mono ?_; rintro e w2 ⟨rfl, hb⟩))
  go_ret
  exact ⟨rfl, b1.trans (hb.mono b1.size)⟩

set_option maxHeartbeats 1000000 in
theorem ref_sign_n (x : Int) (w : World) (hl : (itoa x).length ≤ 1000000) :
    Calls Tryz.prog 19 #[.string ⟨(itoa x).toArray⟩] w fun e w' => e = .returned (.int .i64 x.sign) ∧ Below w.heap.size w w' := by
  have hS := Lib.hid (fun w => ref_split_n x w (by omega))
  rcases Int.lt_trichotomy x 0 with hx | hx | hx
  · rw [show decide (x < 0) = true from decide_eq_true hx] at hS
    rw [Int.sign_eq_neg_one_of_neg hx]
    go_enter Tryz.func19, Tryz.ntmps19
    go_wp2_with (go_at_call 42; refine (hS.out _).mono ?_; rintro e w1 ⟨rfl, h1⟩; have b1 := below_dn h1; clear h1)
    go_ret
    exact ⟨rfl, b1⟩
  · subst hx
    rw [itoa_zero] at hS
    rw [show decide ((0 : Int) < 0) = false by decide] at hS
    rw [itoa_zero]
    go_enter Tryz.func19, Tryz.ntmps19
    go_wp2_with (go_at_call 42; refine (hS.out _).mono ?_; rintro e w1 ⟨rfl, h1⟩; have b1 := below_dn h1; clear h1)
    go_ret
    exact ⟨rfl, b1⟩
  · rw [show decide (x < 0) = false from decide_eq_false (by omega)] at hS
    rw [Int.sign_eq_one_of_pos hx]
    have hz : (itoa x == [48]) = false := by
      rw [beq_eq_false_iff_ne]; intro e; have := itoa_eq_zero.1 e; omega
    go_enter Tryz.func19, Tryz.ntmps19
    go_wp2_with (go_at_call 42; refine (hS.out _).mono ?_; rintro e w1 ⟨rfl, h1⟩; have b1 := below_dn h1; clear h1)
    go_ret
    exact ⟨rfl, b1⟩

set_option maxHeartbeats 1000000 in
theorem ref_abs_n (x : Int) (w : World) (hl : (itoa x).length ≤ 1000000) :
    Calls Tryz.prog 22 #[.string ⟨(itoa x).toArray⟩] w fun e w' => e = .returned (.string ⟨(itoa (x.natAbs : Int)).toArray⟩) ∧ Below w.heap.size w w' := by
  have hS := Lib.hid (fun w => ref_split_n x w (by omega))
  rw [itoa_nat]
  go_enter Tryz.func22, Tryz.ntmps22
  go_wp2_with (go_at_call 42; refine (hS.out _).mono ?_; rintro e w1 ⟨rfl, h1⟩; have b1 := below_dn h1; clear h1)
  go_ret
  exact ⟨rfl, b1⟩

theorem cmpI_sign (x y : Int) : (x - y).sign = cmpI x y := by
  rcases Int.lt_trichotomy x y with h | h | h
  · rw [cmpI_lt h, Int.sign_eq_neg_one_of_neg (by omega)]
  · rw [cmpI_eq h, h, Int.sub_self]; rfl
  · rw [cmpI_gt h, Int.sign_eq_one_of_pos (by omega)]

set_option maxHeartbeats 1000000 in
theorem ref_compare_n (x y : Int) (w : World) (hx : (itoa x).length ≤ 99000) (hy : (itoa y).length ≤ 99000) (htab : TabIs Tryz.prog w "internal/strconv.uint64pow10" .u64 pow10Tab) :
    Calls Tryz.prog 29 #[.string ⟨(itoa x).toArray⟩, .string ⟨(itoa y).toArray⟩] w fun e w' => e = .returned (.int .i64 (cmpI x y)) ∧ Below w.heap.size w w' := by
  have hS := Lib.hid (ref_sub_n x y w (by omega) (by omega) htab)
  have hl := add_len (show (itoa x).length ≤ 99001 by omega) (neg_len hy (by decide))
  rw [show x + -y = x - y by omega] at hl
  have hG := Lib.hid (fun w => ref_sign_n (x - y) w (by omega))
  rw [cmpI_sign] at hG
  go_enter Tryz.func29, Tryz.ntmps29
  go_wp2_with (first
    | (go_at_call 26; refine hS.out.mono ?_; rintro e w1 ⟨rfl, b1⟩)
    | (go_at_call 19; refine (hG.out _).mono ?_; rintro e w2 ⟨rfl, hb⟩))
  go_ret
  exact ⟨rfl, b1.trans (hb.mono b1.size)⟩

end Go.Proofs.YtpjknkembghjcaaGreatDoor

set_option linter.unusedVariables false
set_option linter.unusedSimpArgs false
namespace Go.Proofs.YtpjknkembghjcaaGreatDoor
open Go.RowKit Go.Lib Go.Proofs.YtpjknkembghjcaaGreatDoor.Dec Go.Proofs.YtpjknkembghjcaaGreatDoor.Mag Go.Proofs.YtpjknkembghjcaaGreatDoor.Chunk

theorem half_hit {R Y m : Int} (hY : 0 < Y) : decide (R < 0 + m * Y) = decide (R / Y < m) := by
  rw [Int.zero_add]
  have h : (R < m * Y) ↔ (R / Y < m) := by
    constructor
    · intro h; exact Int.ediv_lt_of_lt_mul hY h
    · intro h; exact Int.not_le.1 fun h2 => absurd ((Int.le_ediv_iff_mul_le hY).2 h2) (by omega)
  simp [h]
theorem half_div {R Y : Int} {n : Int} (hY : 0 < Y) (h0 : 0 ≤ R) (h : R < n * Y) : 0 ≤ R / Y ∧ R / Y < n :=
  ⟨Int.ediv_nonneg h0 (Int.le_of_lt hY), Int.ediv_lt_of_lt_mul hY h⟩
theorem MgI.nil (w : World) : MgI w (.slice none 0 0) 0 := ⟨none, 0, 0, [], rfl, rfl, Nat.le_refl _, Rd.nil _ _ _, Pcs.nil, Trm.nil, rfl, fun _ => rfl⟩
theorem Rd.storeAt {w : World} {k : IntKind} {A : Option Addr} {xs : List Int} (h : Rd w k A xs) (b j : Nat) (hb : ∀ ad, A = some ad → ad.block ≠ b) (u : Value) : Rd (w.setCell ⟨b, j, none⟩ u) k A xs := by
  refine ⟨h.1, fun h0 => ?_⟩
  obtain ⟨b', off, e, hlt, hc⟩ := h.2 h0
  have hne := hb _ e
  exact ⟨b', off, e, by simpa using hlt, fun j hj => by rw [World.cell?_setCell_other _ _ _ _ (by intro e'; have h1 := congrArg Addr.block e'; first | exact hne h1 | exact hne h1.symm)]; exact hc j hj⟩
theorem MgI.storeAt {w : World} {a : Option Addr} {n c : Nat} {x : Int} (h : MgI w (.slice a n c) x) (b j : Nat) (hb : ∀ ad, a = some ad → ad.block ≠ b) (u : Value) : MgI (w.setCell ⟨b, j, none⟩ u) (.slice a n c) x := by
  obtain ⟨a', n', c', xs, e, h2, h3, h4, h5, h6, h7, h8⟩ := h
  cases e
  exact ⟨a, n, c, xs, rfl, h2, h3, h4.storeAt b j hb u, h5, h6, h7, h8⟩
theorem MgI.drewN {w : World} {v : Value} {x : Int} (h : MgI w v x) (k : Nat) : MgI (w.drewN k) v x := by
  obtain ⟨a, n, c, xs, e, h2, h3, h4, h5, h6, h7, h8⟩ := h
  exact ⟨a, n, c, xs, e, h2, h3, h4.drewN k, h5, h6, h7, h8⟩

set_option maxHeartbeats 4000000 in
set_option maxRecDepth 100000 in
theorem parts_any (A A' : Option Addr) (ca cb : Nat) (xs ys : List Int) (w : World) (hx : Rd w .i64 A xs) (hy : Rd w .i64 A' ys) (hlx : xs.length ≤ 100000) (hly : ys.length ≤ 100000)
    (px : Pcs 10000 xs) (py : Pcs 10000 ys) (ty : Trm ys) (hcb : ys.length ≤ cb) (hAb : A' = none → cb = 0) (hY : 0 < pv 10000 ys) :
    Calls Tryz.prog 43 #[.slice A xs.length ca, .slice A' ys.length cb] w fun e w' => ∃ q r, e = .returned (.tuple #[q, r]) ∧ MgI w' q (pv 10000 xs / pv 10000 ys) ∧ MgI w' r (pv 10000 xs % pv 10000 ys) ∧ Below w.heap.size w w' := by
  obtain ⟨i0, hi, hz0, hz1, hz2⟩ := info_parts info_i64
  have HY := Lib.hid (show MgI w (.slice A' ys.length cb) (pv 10000 ys) from ⟨A', _, cb, ys, rfl, rfl, hcb, hy, py, ty, rfl, hAb⟩)
  have BY := Lib.hid (show pv 10000 ys < 10000 ^ 100000 from Int.lt_of_lt_of_le (pv_lt (by decide) py) (pow_mono (by decide) hly))
  have BYW := Lib.hid (show pv 10000 ys < 10000 ^ 400000 from Int.lt_of_lt_of_le BY.out (pow_mono (by decide) (by decide)))
  have HPW := Lib.hid (show (0 : Int) < 10000 ^ 400000 from pow_pos (by decide) _)
  have HPZ := Lib.hid (show (10000 : Int) ^ 100000 * 10000 ≤ 10000 ^ 400000 from by rw [← Int.pow_succ]; exact pow_mono (by decide) (by decide))
  generalize pv 10000 ys = Y at *
  clear py ty hy
  go_enter Tryz.func43, Tryz.ntmps43
  go_wp2_with (at_make; refine wpList_make_full _ rfl _ _ 62 rfl w.heap.size 3 i0 (.int .i64 0) 1 Tryz.underlying62 hi hz0 hz1 _ _ _ _ xs.length rfl rfl rfl rfl (by rw [hz2]; omega) (by unfold maxLen; omega) (Nat.le_refl _) ?_; intro w1 hown1 hgrow1; refine Hid.out ?_)
  refine Lib.hid ?_
  have hb1 : Below w.heap.size w w1 := (Below.refl _ _).grown hgrow1 (Nat.le_refl _) (fun k e => by cases e)
  have hT1 : TRowI w w1 xs.length (List.replicate xs.length 0) := ⟨by simpa [toList_madeCells_one, Value.cells] using hown1, by simp, hb1⟩
  clear hown1 hgrow1 hb1
  go_wp2_with fail
  go_loopw [7, 8] (fun rv iv wr => ∃ (k : Nat) (m : Int) (os : List Int) (R : Int), k ≤ xs.length ∧ iv = .int .i64 m ∧ Hid (m = (k : Int) - 1) ∧ Hid (MgI wr rv R) ∧ 0 ≤ R ∧ R < Y ∧ TRowI w wr xs.length os ∧ Hid (Pcs 10000 os) ∧
      Hid (pv 10000 (os.drop k) * Y + R = pv 10000 (xs.drop k))) (fun _ i _ => (intOf i + 1).toNat)
  case atStart => exact ⟨xs.length, _, List.replicate xs.length 0, 0, Nat.le_refl _, rfl, Lib.hid rfl, Lib.hid (MgI.nil _), Int.le_refl _, hY, hT1, Lib.hid (Pcs.zeros (by omega) _), Lib.hid (by rw [List.drop_length, List.drop_of_length_le (by simp)]; simp [pv])⟩
  case round =>
    obtain ⟨k, m, os, R, hk, rfl, hm, HR, R0, R1, hT, HP, HV⟩ := hrel
    obtain ⟨wo, rfl⟩ : ∃ wo : World, wo = wr := ⟨_, rfl⟩
    clear hT1
    by_cases h0 : 0 < k
    · obtain ⟨j, rfl⟩ : ∃ j, k = j + 1 := ⟨k - 1, by omega⟩
      obtain rfl : m = (j : Int) := by have := hm.out; omega
      clear hm
      obtain ⟨b, off, rfl, hbw, hc⟩ := hx.2 (by omega)
      have cz := (hT.2.2.cell (p := ⟨b, off + j, none⟩) hbw).trans (hc j (by omega))
      have z1 := px.at (by omega) j
      generalize gz : xs.getD j 0 = z at cz z1
      have GZ := Lib.hid gz
      clear gz hc
      obtain ⟨z0, z1⟩ := z1
      obtain ⟨a3, n3, c3, rs, rfl, hr1, hr2, hr3, hr4, hr5, hr6, hr8⟩ := HR.out
      have hgs : w.heap.size + 1 ≤ wo.heap.size := (hT.1.lt w.heap.size (by simp [Value.ownBlock])).2
      have hlr : rs.length ≤ 100000 := hr5.len_le (by decide) hr4 (by rw [hr6]; exact Int.lt_trans R1 BY.out)
      subst hr1
      have hrA := hr3.alloc (.cells #[.int .i64 z] 3)
      have HR6 := Lib.hid hr6
      clear hr6 hr3 HR
      go_wp2_with (at_builtin; refine list_append_rd rfl _ _ 62 rfl (w.heap.size + 1) 3 i0 (.int .i64 0) 8 Tryz.underlying62 hi hz0 hz1 hz2 rfl _ _ _ rfl (own_lit1 wo (w.heap.size + 1) _ _ hgs) .i64 a3 rs.length c3 rs rfl hrA rfl hr8 (by unfold maxLen; omega) (by omega) (by simp; omega) ?_; intro v4 w4 hown4 hgrow4; refine Hid.out ?_)
      refine Lib.hid ?_
      have hgrow5 : (wo.alloc (.cells #[.int .i64 z] 3)).grownBy w4 (some wo.heap.size) := hgrow4
      have hown5 : w4.ownsRow (w.heap.size + 1) 3 1 v4 (1 + rs.length) ((z :: rs).map (Value.int .i64)) := by simpa using hown4
      clear hown4 hgrow4 hrA
      obtain ⟨a4, c4, rfl, hc4, hq4, hl4, hb4, hn4⟩ := Rd.of_own_any hown5 (by omega)
      have hT4 : TRowI w w4 xs.length os := ⟨(hT.1.alloc (.cells #[.int .i64 z] 3)).kept hgrow5 (.inr (by simp [Value.ownBlock]; omega)), hT.2.1, (hT.2.2.alloc (by omega) (.cells #[.int .i64 z] 3)).grown hgrow5 (by simp; omega) (fun j e => by cases e; omega)⟩
      have HM4 := Lib.hid (MgI.trimmed (x := z + 10000 * R) hq4 (Pcs.cons ⟨z0, z1⟩ hr4) (by rw [hl4]; exact hc4) (by rw [pv_cons, HR6.out]) hn4)
      have HL4 := Lib.hid hl4
      have HQ4 := Lib.hid hq4
      have hs4 : w.heap.size < w4.heap.size := (hT4.1.lt w.heap.size (by simp [Value.ownBlock])).2
      have hne4 := Lib.hid (show ∀ ad, a4 = some ad → ad.block ≠ w.heap.size from fun ad e => by have := hb4 ad e; omega)
      clear hgrow5 hown5 hT hl4 hq4 hb4 hn4 cz
      go_wp2_with fail
      refine (cut_det a4 _ c4 (z :: rs) w4 HQ4.out HL4.out hc4).mono ?_
      rintro e w5 ⟨rfl, rfl⟩
      generalize trimN (z :: rs) = nt at *
      obtain ⟨d0, d1⟩ := half_div (n := 10000) hY (show 0 ≤ z + 10000 * R by omega) (by omega)
      have HD := Lib.hid (show (z + 10000 * R) / Y = (z + 10000 * R) / Y from rfl)
      have HZ0 := Lib.hid (show 0 ≤ z + 10000 * R by omega)
      have BZ := Lib.hid (show z + 10000 * R < 10000 ^ 400000 by
        have h1 := BY.out
        have h2 := HPZ.out
        generalize (10000 : Int) ^ 400000 = P4 at *
        generalize (10000 : Int) ^ 100000 = P1 at *
        omega)
      have HE := Lib.hid (Int.emod_def (z + 10000 * R) Y)
      have HE0 := Lib.hid (Int.emod_nonneg (z + 10000 * R) (show Y ≠ 0 by omega))
      have HE1 := Lib.hid (Int.emod_lt_of_pos (z + 10000 * R) hY)
      have HH := Lib.hid (fun m => half_hit (R := z + 10000 * R) (m := m) hY)
      clear HQ4 HL4
      generalize hgd : (z + 10000 * R) / Y = d at *
      have HGD := Lib.hid hgd
      clear hgd
      go_wp2_with fail
      go_loopw [9, 10] (fun lv hv wr => ∃ (lo hi : Int), lv = .int .i64 lo ∧ hv = .int .i64 hi ∧ 0 ≤ lo ∧ lo ≤ d ∧ d ≤ hi ∧ hi ≤ 9999 ∧ Below w5.heap.size w5 wr) (fun l h _ => (intOf h - intOf l).toNat)
      case atStart => exact ⟨0, 9999, rfl, rfl, Int.le_refl _, d0, by omega, Int.le_refl _, Below.refl _ _⟩
      case round =>
        obtain ⟨lo, hi, rfl, rfl, l0, l1, l2, l3, hb⟩ := hrel
        obtain ⟨wi, rfl⟩ : ∃ wi : World, wi = wr := ⟨_, rfl⟩
        by_cases hlt : lo < hi
        · have HMI := Lib.hid (HM4.out.below hb)
          have HYI := Lib.hid ((HY.out.below hT4.2.2).below hb)
          go_wp2_with fail
          have hM0 : lo < (lo + hi + 1) / 2 := by omega
          have hM1 : (lo + hi + 1) / 2 ≤ hi := by omega
          generalize (lo + hi + 1) / 2 = M at *
          have hHM := HH.out M
          have hMY := Int.mul_nonneg (show 0 ≤ M by omega) (Int.le_of_lt hY)
          refine (joined_n _ _ 0 Y M _ (MgI.nil _) HYI.out HPW.out BYW.out (by omega) (by omega) (by omega)).mono ?_
          rintro e w6 ⟨u, rfl, hu, hb6⟩
          have HU := Lib.hid hu
          obtain ⟨a6, n6, c6, z6, rfl, hr6⟩ := hu
          clear hr6
          have HM6 := Lib.hid (HMI.out.below hb6)
          have hb7 := hb.trans (hb6.mono hb.size)
          clear hMY
          go_wp2_with fail
          refine (less_n _ _ (z + 10000 * R) (0 + M * Y) _ HM6.out HU.out).mono ?_
          rintro e w7 ⟨rfl, nn, rfl⟩
          rw [hHM]
          have hb8 := below_drewN hb7 nn
          clear hHM
          by_cases hdm : d < M
          · rw [decide_eq_true hdm]
            go_wp2_with fail
            go_roundw
            case rel => exact ⟨lo, M - 1, rfl, rfl, l0, l1, by omega, by omega, hb8⟩
            case measure => simp [intOf]; omega
          · rw [decide_eq_false hdm]
            go_wp2_with fail
            go_roundw
            case rel => exact ⟨M, hi, rfl, rfl, by omega, by omega, l2, l3, hb8⟩
            case measure => simp [intOf]; omega
        · obtain rfl : lo = d := by omega
          have hT8 : TRowI w wi xs.length os := ⟨hT4.1.kept (grownBy_of_below hb) (.inr (by simp [Value.ownBlock])), hT4.2.1, hT4.2.2.trans (hb.mono hT4.2.2.size)⟩
          have c8 := hT8.cell j (by omega)
          have f8 := hT8.free j
          have hT9 := Lib.hid (hT8.store j lo)
          have HM9 := Lib.hid ((HM4.out.below hb).storeAt w.heap.size j hne4.out (.int .i64 lo))
          have HY9 := Lib.hid (HY.out.below hT9.out.2.2)
          have HL9 := Lib.hid hT8.2.1
          clear hT8 hT4
          go_wp2_with fail
          refine (joined_n _ _ (z + 10000 * R) Y (-lo) _ HM9.out HY9.out BZ.out BYW.out (by omega) (by omega) (by have := HE.out; have := HE0.out; rw [Int.neg_mul, Int.mul_comm lo]; omega)).mono ?_
          rintro e w6 ⟨u, rfl, hu, hb6⟩
          have hRe : z + 10000 * R + -lo * Y = (z + 10000 * R) % Y := by rw [HE.out, Int.neg_mul, Int.mul_comm lo]; omega
          rw [hRe] at hu
          have HU := Lib.hid hu
          obtain ⟨a6, n6, c6, z6, rfl, hr6⟩ := hu
          clear hr6
          have hT10 : TRowI w w6 xs.length (os.set j lo) := ⟨hT9.out.1.kept (grownBy_of_below hb6) (.inr (by simp [Value.ownBlock])), hT9.out.2.1, hT9.out.2.2.trans (hb6.mono hT9.out.2.2.size)⟩
          have HV10 := Lib.hid (show pv 10000 ((os.set j lo).drop j) * Y + (z + 10000 * R) % Y = pv 10000 (xs.drop j) by
            have h := long_step (B := 10000) (Y := Y) (R := R) (d := lo) (qs := os) (k := j) (show j < xs.length by omega) (by have := HL9.out; omega) HV.out (by rw [GZ.out, HGD.out])
            rw [GZ.out] at h
            rw [← h, ← hRe, Int.neg_mul]; omega)
          have HP10 := Lib.hid (HP.out.set j (x := lo) ⟨l0, by omega⟩)
          clear hT9 c8 f8 hRe
          go_wp2_with fail
          go_roundw
          case rel => exact ⟨j, _, os.set j lo, (z + 10000 * R) % Y, by omega, rfl, Lib.hid rfl, HU, HE0.out, HE1.out, hT10, HP10, HV10⟩
          case measure => simp [intOf]
    · obtain rfl : k = 0 := by omega
      obtain rfl : m = -1 := by have := hm.out; omega
      clear hm
      obtain ⟨a3, n3, c3, rs, rfl, hr3⟩ := HR.out
      clear hr3
      have hrd := Rd.of_owns hT.1 hT.2.1 (by omega)
      have HL := Lib.hid hT.2.1
      have hnx := hT.2.2
      clear hT
      have hv := HV.out
      rw [List.drop_zero, List.drop_zero] at hv
      have hq := (Int.ediv_emod_unique (a := pv 10000 xs) (b := Y) (r := R) (q := pv 10000 os) hY).2 ⟨by rw [← hv, Int.mul_comm]; omega, R0, R1⟩
      obtain ⟨hq1, hq2⟩ := hq
      have HQ1 := Lib.hid hq1
      have HQ2 := Lib.hid hq2
      clear hv hq1 hq2 HV
      go_wp2_with fail
      refine (cut_det (some ⟨w.heap.size, 0, none⟩) xs.length xs.length os _ hrd HL.out (Nat.le_refl _)).mono ?_
      rintro e w' ⟨rfl, rfl⟩
      have HM := Lib.hid (MgI.trimmed (cap := xs.length) hrd HP.out (by have := HL.out; omega) rfl (fun e => by cases e))
      go_wp2_with fail
      go_ret2
      exact ⟨_, _, rfl, by rw [HQ1.out]; exact HM.out, by rw [HQ2.out]; exact HR.out, hnx⟩

/-- The reference's parts on magnitudes. -/
theorem parts_n (v v' : Value) (x y : Int) (w : World) (hx : MgI w v x) (hy : MgI w v' y) (bx : x < 10000 ^ 100000) (bY : y < 10000 ^ 100000) (h0 : 0 < y) :
    Calls Tryz.prog 43 #[v, v'] w fun e w' => ∃ q r, e = .returned (.tuple #[q, r]) ∧ MgI w' q (x / y) ∧ MgI w' r (x % y) ∧ Below w.heap.size w w' := by
  obtain ⟨a, n, c, xs, rfl, rfl, hc, hr, hp, ht, rfl, _⟩ := hx
  obtain ⟨a', n', c', ys, rfl, rfl, hc', hr', hp', ht', rfl, ha'⟩ := hy
  exact parts_any a a' c c' xs ys w hr hr' (ht.len_le (by decide) hp bx) (ht'.len_le (by decide) hp' bY) hp hp' ht' hc' ha' h0

end Go.Proofs.YtpjknkembghjcaaGreatDoor

set_option linter.unusedVariables false
set_option linter.unusedSimpArgs false
namespace Go.Proofs.YtpjknkembghjcaaGreatDoor
open Go.RowKit Go.Lib Go.Proofs.YtpjknkembghjcaaGreatDoor.Dec Go.Proofs.YtpjknkembghjcaaGreatDoor.Mag Go.Proofs.YtpjknkembghjcaaGreatDoor.Chunk

theorem tmod_pos {x y : Int} (hy : y ≠ 0) (h : 0 ≤ x.tmod y) : x.tdiv y = x / y ∧ x.tmod y = x % y := by
  refine Num.euclid hy (Int.mul_tdiv_add_tmod x y) h ?_
  have : (x.tmod y).natAbs < y.natAbs := by rw [Int.natAbs_tmod]; exact Nat.mod_lt _ (by omega)
  omega
theorem tmod_neg {x y : Int} (hy : y ≠ 0) (h : x.tmod y < 0) : x.tmod y + max y (-y) = x % y ∧ (x - x % y).tdiv y = x / y := by
  have h1 : (x.tmod y).natAbs < y.natAbs := by rw [Int.natAbs_tmod]; exact Nat.mod_lt _ (by omega)
  have h2 := Int.mul_tdiv_add_tmod x y
  have h3 : x.tmod y + max y (-y) = x % y := by
    rcases Int.lt_or_gt_of_ne hy with hn | hp
    · refine (Num.euclid (q := x.tdiv y + 1) hy ?_ ?_ ?_).2
      · rw [Int.mul_add, show max y (-y) = -y by omega]; omega
      · omega
      · omega
    · refine (Num.euclid (q := x.tdiv y - 1) hy ?_ ?_ ?_).2
      · rw [Int.mul_sub, show max y (-y) = y by omega]; omega
      · omega
      · omega
  refine ⟨h3, ?_⟩
  have h4 := Int.mul_ediv_add_emod x y
  rw [show x - x % y = y * (x / y) by omega, Int.mul_tdiv_cancel_left _ hy]
theorem tdiv_bound (x y : Int) : (x.tdiv y).natAbs ≤ x.natAbs := by
  rw [Int.natAbs_tdiv]; exact Nat.div_le_self _ _
theorem mgI_len {w : World} {a : Option Addr} {n c : Nat} {x : Int} (h : MgI w (.slice a n c) x) : (0 < n → 0 < x) ∧ (0 < x → 0 < n) := by
  obtain ⟨a', n', c', xs, e, hl, hc, hr, hp, ht, hv, _⟩ := h
  cases e
  subst hl hv
  refine ⟨fun h => ht.pos (by omega) hp h, fun h => ?_⟩
  rcases Nat.eq_zero_or_pos xs.length with h0 | h0
  · rw [List.length_eq_zero_iff.1 h0, pv_nil] at h; omega
  · exact h0
theorem mgI_lit (w : World) (d : Int) (h0 : 0 < d) (h1 : d < 10000) : MgI (w.alloc (.cells #[.int .i64 d] 3)) (.slice (some ⟨w.heap.size, 0, none⟩) 1 1) d :=
  ⟨_, 1, 1, [d], rfl, rfl, Nat.le_refl _, Rd.lit1 w 3 .i64 d, Pcs.cons ⟨by omega, h1⟩ Pcs.nil, fun h => by simp; omega, pv_one _ _, fun h => by cases h⟩

set_option maxHeartbeats 2000000 in
set_option maxRecDepth 100000 in
theorem ref_divmod_quick (x y : Int) (w : World) (hy0 : y ≠ 0) (hq : (decDigits x.natAbs).length ≤ 17 ∧ (decDigits y.natAbs).length ≤ 17) (hx : (itoa x).length ≤ 100000) (hy : (itoa y).length ≤ 100000)
    (htab : TabIs Tryz.prog w "internal/strconv.uint64pow10" .u64 pow10Tab) :
    Calls Tryz.prog 12 #[.string ⟨(itoa x).toArray⟩, .string ⟨(itoa y).toArray⟩] w fun e w' => e = .returned (.tuple #[.string ⟨(itoa (x / y)).toArray⟩, .string ⟨(itoa (x % y)).toArray⟩]) ∧ Below w.heap.size w w' := by
  obtain ⟨q1, q2⟩ := hq
  have bx := brief_val q1
  have bY := brief_val q2
  have hBx := Lib.hid (fun w => brief_n x w (by omega))
  have hBy := Lib.hid (fun w => brief_n y w (by omega))
  rw [show briefVal x = x from if_pos q1, show briefIs x = true from decide_eq_true q1] at hBx
  rw [show briefVal y = y from if_pos q2, show briefIs y = true from decide_eq_true q2] at hBy
  have hyb : (y == 0) = false := beq_eq_false_iff_ne.2 hy0
  have hyz : (y != 0) = true := by rw [bne_iff_ne]; exact hy0
  have hq1 := tdiv_bound x y
  have hr1 : (x.tmod y).natAbs < y.natAbs := by rw [Int.natAbs_tmod]; exact Nat.mod_lt _ (by omega)
  have hd1 : (x / y).natAbs ≤ x.natAbs := by first | exact Int.natAbs_div_le_natAbs x y | exact Int.natAbs_ediv_le_natAbs x y
  have hm1 := Int.emod_nonneg x hy0
  have hm2 := Int.emod_lt x hy0
  have hQ := Lib.hid (fun w htab => ref_of_n (x / y) (by omega) (by omega) w htab)
  have hR := Lib.hid (fun w htab => ref_of_n (x % y) (by omega) (by omega) w htab)
  by_cases hneg : x.tmod y < 0
  · obtain ⟨e1, e2⟩ := tmod_neg hy0 hneg
    have E1 := Lib.hid e1
    have E2 := Lib.hid (show wrap64 ((x - (x.tmod y + max y (-y))).tdiv y) = x / y by rw [e1, e2]; unfold wrap64; omega)
    clear e1 e2 q1 q2 hx hy
    go_enter Tryz.func12, Tryz.ntmps12
    have bd := Below.refl w.heap.size w
    go_wp2_with (first
      | (go_at_call 41; (with_reducible refine (hBx.out _).mono ?_); rintro e w1 ⟨rfl, h1⟩; have bd := bd.trans (h1.mono bd.size))
      | (go_at_call 41; (with_reducible refine (hBy.out _).mono ?_); rintro e w1 ⟨rfl, h1⟩; have bd := bd.trans (h1.mono bd.size)))
    go_quiet (fail)
    have bd := below_drewN bd nq
    go_wp2_with fail
    rw [E2.out]
    refine (hQ.out _ (tab_below htab bd)).mono ?_
    rintro e w2 ⟨rfl, h2⟩
    have bd := bd.trans (h2.mono bd.size)
    go_wp2_with fail
    rw [E1.out]
    refine (hR.out _ (tab_below htab bd)).mono ?_
    rintro e w3 ⟨rfl, h3⟩
    have bd := bd.trans (h3.mono bd.size)
    go_wp2_with fail
    go_ret2
    exact ⟨rfl, bd⟩
  · obtain ⟨e1, e2⟩ := tmod_pos hy0 (Int.not_lt.1 hneg)
    rw [← e1] at hQ
    rw [← e2] at hR
    rw [← e1, ← e2]
    clear e1 e2 q1 q2 hx hy
    go_enter Tryz.func12, Tryz.ntmps12
    have bd := Below.refl w.heap.size w
    go_wp2_with (first
      | (go_at_call 41; (with_reducible refine (hBx.out _).mono ?_); rintro e w1 ⟨rfl, h1⟩; have bd := bd.trans (h1.mono bd.size))
      | (go_at_call 41; (with_reducible refine (hBy.out _).mono ?_); rintro e w1 ⟨rfl, h1⟩; have bd := bd.trans (h1.mono bd.size)))
    go_quiet (fail)
    have bd := below_drewN bd nq
    go_wp2_with (first
      | (go_at_call 17; (with_reducible refine (hQ.out _ (tab_below htab bd)).mono ?_); rintro e w1 ⟨rfl, h1⟩; have bd := bd.trans (h1.mono bd.size))
      | (go_at_call 17; (with_reducible refine (hR.out _ (tab_below htab bd)).mono ?_); rintro e w1 ⟨rfl, h1⟩; have bd := bd.trans (h1.mono bd.size)))
    go_ret2
    exact ⟨rfl, bd⟩

set_option maxHeartbeats 4000000 in
set_option maxRecDepth 100000 in
theorem ref_divmod_long (x y : Int) (w : World) (hy0 : y ≠ 0) (hs : ¬ ((decDigits x.natAbs).length ≤ 17 ∧ (decDigits y.natAbs).length ≤ 17)) (hx : (itoa x).length ≤ 100000) (hy : (itoa y).length ≤ 100000)
    (htab : TabIs Tryz.prog w "internal/strconv.uint64pow10" .u64 pow10Tab) :
    Calls Tryz.prog 12 #[.string ⟨(itoa x).toArray⟩, .string ⟨(itoa y).toArray⟩] w fun e w' => e = .returned (.tuple #[.string ⟨(itoa (x / y)).toArray⟩, .string ⟨(itoa (x % y)).toArray⟩]) ∧ Below w.heap.size w w' := by
  have lx := Nat.le_trans (digs_len x) hx
  have ly := Nat.le_trans (digs_len y) hy
  have hBx := Lib.hid (fun w => brief_n x w (by omega))
  have hBy := Lib.hid (fun w => brief_n y w (by omega))
  have hSx := Lib.hid (fun w => ref_split_n x w (by omega))
  have hSy := Lib.hid (fun w => ref_split_n y w (by omega))
  have hTx := Lib.hid (fun w => take_n (decDigits x.natAbs) w (dec_all _) (by omega))
  have hTy := Lib.hid (fun w => take_n (decDigits y.natAbs) w (dec_all _) (by omega))
  rw [dval_dec] at hTx hTy
  have hbr : (briefIs x && briefIs y) = false := by
    unfold briefIs
    rw [Bool.and_eq_false_iff]
    by_cases h : (decDigits x.natAbs).length ≤ 17
    · right; exact decide_eq_false (fun e => hs ⟨h, e⟩)
    · left; exact decide_eq_false h
  have bX := Lib.hid (show (x.natAbs : Int) < 10000 ^ 100000 from lt_base (lt_pow_dec x.natAbs) (by omega))
  have bY := Lib.hid (show (y.natAbs : Int) < 10000 ^ 100000 from lt_base (lt_pow_dec y.natAbs) (by omega))
  -- a magnitude of at most 100001 digits
  have hK := Lib.hid (show ∀ z : Int, 0 ≤ z → z ≤ (x.natAbs : Int) + (y.natAbs : Int) → z < 10000 ^ 200000 ∧ (decDigits z.toNat).length ≤ 100000000 by
    intro z h0 h1
    have h2 := lt_pow_dec x.natAbs
    have h3 := lt_pow_dec y.natAbs
    have h6 := sum_pow (K := 100000) (z := z.toNat) h2 h3 (by omega) (by omega) (by omega)
    have h7 := lt_base (k := 200000) h6 (by omega)
    exact ⟨by rwa [Int.toNat_of_nonneg h0] at h7, Nat.le_trans (dec_len_le (by decide) h6) (by decide)⟩)
  have hy1 : 0 < (y.natAbs : Int) := by omega
  have hP := Lib.hid (fun v v' w hvx hvy => parts_n v v' (x.natAbs : Int) (y.natAbs : Int) w hvx hvy bX.out bY.out hy1)
  obtain ⟨hm1, hm2⟩ := Num.divmod_mag hy0 (rfl : (x.natAbs : Int) / (y.natAbs : Int) = _) (rfl : (x.natAbs : Int) % (y.natAbs : Int) = _)
  have R0 := Int.emod_nonneg (x.natAbs : Int) (show (y.natAbs : Int) ≠ 0 by omega)
  have R1 := Int.emod_lt_of_pos (x.natAbs : Int) hy1
  have Q0 := Int.ediv_nonneg (show 0 ≤ (x.natAbs : Int) by omega) (Int.le_of_lt hy1)
  have Q1 := Int.ediv_le_self (y.natAbs : Int) (show 0 ≤ (x.natAbs : Int) by omega)
  have hL1 := Lib.hid (Int.lt_of_lt_of_le bX.out (pow_mono (B := 10000) (by decide) (show 100000 ≤ 400000 by decide)))
  have hL2 := Lib.hid (Int.lt_of_lt_of_le bY.out (pow_mono (B := 10000) (by decide) (show 100000 ≤ 400000 by decide)))
  have hL3 := Lib.hid (show (1 : Int) < 10000 ^ 400000 from Int.lt_of_lt_of_le (show (1 : Int) < 10000 ^ 1 by decide) (pow_mono (by decide) (by decide)))
  generalize (x.natAbs : Int) / (y.natAbs : Int) = D at *
  generalize (x.natAbs : Int) % (y.natAbs : Int) = R at *
  by_cases hway : x < 0 ∧ 0 < R
  · obtain ⟨e1, e2⟩ := hm1 hway
    obtain ⟨w1, w2⟩ := hway
    have hJ1 := Lib.hid (fun v v' w hvx hvy => joined_n v v' D 1 1 w hvx hvy (Int.lt_of_le_of_lt Q1 hL1.out) hL3.out (by decide) (by decide) (by omega))
    have hJ2 := Lib.hid (fun v v' w hvx hvy => joined_n v v' (y.natAbs : Int) R (-1) w hvx hvy hL2.out (Int.lt_trans R1 hL2.out) (by decide) (by decide) (by omega))
    obtain ⟨k1, k2⟩ := hK.out (D + 1) (by omega) (by omega)
    obtain ⟨k3, k4⟩ := hK.out ((y.natAbs : Int) - R) (by omega) (by omega)
    rw [show D + 1 * 1 = D + 1 by omega] at hJ1
    rw [show (y.natAbs : Int) + -1 * R = (y.natAbs : Int) - R by omega] at hJ2
    have hM1 := Lib.hid (fun u w h htab => made_n (decide (x < 0) != decide (y < 0)) u (D + 1) w h k1 k2 htab)
    have hM2 := Lib.hid (show ∀ (u : Value) (w : World), MgI w u ((y.natAbs : Int) - R) → TabIs Tryz.prog w "internal/strconv.uint64pow10" .u64 pow10Tab → Calls Tryz.prog 46 #[.bool false, u] w fun e w' => e = .returned (.string ⟨(itoa (x % y)).toArray⟩) ∧ Below w.heap.size w w' from fun u w h htab => by
      have h2 := made_n false u ((y.natAbs : Int) - R) w h k3 k4 htab
      rw [if_neg (by decide), e2] at h2
      exact h2)
    rw [e1] at hM1
    rw [decide_eq_true w1] at hSx hM1
    rw [Bool.true_bne] at hM1
    clear hK k1 k2 k3 k4 e1 e2 hm1 hm2 hL1 hL2 hL3 Q0 Q1
    generalize decDigits x.natAbs = s at *
    generalize decDigits y.natAbs = t at *
    generalize (x.natAbs : Int) = X at *
    generalize (y.natAbs : Int) = Y at *
    generalize x / y = q0 at *
    generalize x % y = r0 at *
    generalize decide (y < 0) = sy at *
    generalize briefIs x = ix at *
    generalize briefIs y = iy at *
    generalize briefVal x = vx0 at *
    generalize briefVal y = vy0 at *
    cases ix <;> cases iy
    case true.true => cases hbr
    all_goals
      go_enter Tryz.func12, Tryz.ntmps12
      have bd := Below.refl w.heap.size w
      go_wp2_with (first
        | (go_at_call 41; (with_reducible refine (hBx.out _).mono ?_); rintro e w1 ⟨rfl, h1⟩; have bd := bd.trans (h1.mono bd.size))
        | (go_at_call 41; (with_reducible refine (hBy.out _).mono ?_); rintro e w1 ⟨rfl, h1⟩; have bd := bd.trans (h1.mono bd.size))
        | (go_at_call 42; (with_reducible refine (hSx.out _).mono ?_); rintro e w1 ⟨rfl, h1⟩; have bd := bd.trans ((below_dn h1).mono bd.size))
        | (go_at_call 42; (with_reducible refine (hSy.out _).mono ?_); rintro e w1 ⟨rfl, h1⟩; have bd := bd.trans ((below_dn h1).mono bd.size))
        | (go_at_call 44; (with_reducible refine (hTx.out _).mono ?_); rintro e w1 ⟨vx, rfl, hm, h1⟩; have HX := Lib.hid hm; clear hm; have bd := bd.trans (h1.mono bd.size))
        | (go_at_call 44; (with_reducible refine (hTy.out _).mono ?_); rintro e w1 ⟨vy, rfl, hm, h1⟩; have HY := Lib.hid hm; clear hm; have HX := Lib.hid (HX.out.below h1); have bd := bd.trans (h1.mono bd.size); refine Hid.out ?_))
      refine Lib.hid ?_
      go_wp2_with fail
      refine (hP.out _ _ _ HX.out HY.out).mono ?_
      rintro e w5 ⟨q, r, rfl, hq, hr, h5⟩
      have HQ := Lib.hid hq
      have HR := Lib.hid hr
      have bd := bd.trans (h5.mono bd.size)
      obtain ⟨aq, n8, cq, zq, rfl, hrest⟩ := hq
      obtain ⟨ar, n9, cr, zr, rfl, hrest'⟩ := hr
      clear hrest hrest' HX HY
      have hn9 : 0 < n9 := (mgI_len HR.out).2 w2
      go_wp2_with fail
      have ha5 : Below w5.heap.size w5 (w5.alloc (.cells #[.int .i64 1] 3)) := (Below.refl _ _).alloc (Nat.le_refl _) _
      refine (hJ1.out _ _ _ (HQ.out.below ha5) (mgI_lit w5 1 (by decide) (by decide))).mono ?_
      rintro e w6 ⟨u, rfl, hu, h6⟩
      have h6 := ha5.trans (h6.mono ha5.size)
      have HU := Lib.hid hu
      obtain ⟨au, nu, cu, zu, rfl, hru⟩ := hu
      have HR := Lib.hid (HR.out.below h6)
      have bd := bd.trans (h6.mono bd.size)
      clear hru ha5
      go_wp2_with fail
      refine (hTy.out _).mono ?_
      rintro e w7 ⟨v7, rfl, hv7, h7⟩
      have HY := Lib.hid hv7
      obtain ⟨a7, n7, c7, z7, rfl, hr7⟩ := hv7
      have HR := Lib.hid (HR.out.below h7)
      have HU := Lib.hid (HU.out.below h7)
      have bd := bd.trans (h7.mono bd.size)
      clear hr7
      go_wp2_with fail
      refine (hJ2.out _ _ _ HY.out HR.out).mono ?_
      rintro e w8 ⟨v8, rfl, hv8, h8⟩
      have HZ := Lib.hid hv8
      obtain ⟨a8, n8', c8, z8, rfl, hr8⟩ := hv8
      have HU := Lib.hid (HU.out.below h8)
      have bd := bd.trans (h8.mono bd.size)
      clear hr8 HY HR
      go_wp2_with fail
      refine (hM1.out _ _ HU.out (tab_below htab bd)).mono ?_
      rintro e w9 ⟨rfl, h9⟩
      have HZ := Lib.hid (HZ.out.below h9)
      have bd := bd.trans (h9.mono bd.size)
      go_wp2_with fail
      refine (hM2.out _ _ HZ.out (tab_below htab bd)).mono ?_
      rintro e w10 ⟨rfl, h10⟩
      have bd := bd.trans (h10.mono bd.size)
      go_wp2_with fail
      go_ret2
      exact ⟨rfl, bd⟩
  · obtain ⟨e1, e2⟩ := hm2 hway
    obtain ⟨k1, k2⟩ := hK.out D (by omega) (by omega)
    obtain ⟨k3, k4⟩ := hK.out R (by omega) (by omega)
    have hM1 := Lib.hid (fun u w h htab => made_n (decide (x < 0) != decide (y < 0)) u D w h k1 k2 htab)
    have hM2 := Lib.hid (show ∀ (u : Value) (w : World), MgI w u R → TabIs Tryz.prog w "internal/strconv.uint64pow10" .u64 pow10Tab → Calls Tryz.prog 46 #[.bool false, u] w fun e w' => e = .returned (.string ⟨(itoa (x % y)).toArray⟩) ∧ Below w.heap.size w w' from fun u w h htab => by
      have h2 := made_n false u R w h k3 k4 htab
      rw [if_neg (by decide), e2] at h2
      exact h2)
    rw [e1] at hM1
    have hsp : decide (x < 0) = false ∨ R = 0 := by
      by_cases h : x < 0
      · right; have : ¬ 0 < R := fun e => hway ⟨h, e⟩; omega
      · left; exact decide_eq_false h
    clear hK k1 k2 k3 k4 e1 e2 hm1 hm2 hL1 hL2 hL3 Q0 Q1 hway
    generalize decDigits x.natAbs = s at *
    generalize decDigits y.natAbs = t at *
    generalize (x.natAbs : Int) = X at *
    generalize (y.natAbs : Int) = Y at *
    generalize x / y = q0 at *
    generalize x % y = r0 at *
    generalize decide (x < 0) = sx at *
    generalize decide (y < 0) = sy at *
    generalize briefIs x = ix at *
    generalize briefIs y = iy at *
    generalize briefVal x = vx0 at *
    generalize briefVal y = vy0 at *
    cases ix <;> cases iy
    case true.true => cases hbr
    all_goals
      go_enter Tryz.func12, Tryz.ntmps12
      have bd := Below.refl w.heap.size w
      go_wp2_with (first
        | (go_at_call 41; (with_reducible refine (hBx.out _).mono ?_); rintro e w1 ⟨rfl, h1⟩; have bd := bd.trans (h1.mono bd.size))
        | (go_at_call 41; (with_reducible refine (hBy.out _).mono ?_); rintro e w1 ⟨rfl, h1⟩; have bd := bd.trans (h1.mono bd.size))
        | (go_at_call 42; (with_reducible refine (hSx.out _).mono ?_); rintro e w1 ⟨rfl, h1⟩; have bd := bd.trans ((below_dn h1).mono bd.size))
        | (go_at_call 42; (with_reducible refine (hSy.out _).mono ?_); rintro e w1 ⟨rfl, h1⟩; have bd := bd.trans ((below_dn h1).mono bd.size))
        | (go_at_call 44; (with_reducible refine (hTx.out _).mono ?_); rintro e w1 ⟨vx, rfl, hm, h1⟩; have HX := Lib.hid hm; clear hm; have bd := bd.trans (h1.mono bd.size))
        | (go_at_call 44; (with_reducible refine (hTy.out _).mono ?_); rintro e w1 ⟨vy, rfl, hm, h1⟩; have HY := Lib.hid hm; clear hm; have HX := Lib.hid (HX.out.below h1); have bd := bd.trans (h1.mono bd.size); refine Hid.out ?_))
      refine Lib.hid ?_
      go_wp2_with fail
      refine (hP.out _ _ _ HX.out HY.out).mono ?_
      rintro e w5 ⟨q, r, rfl, hq, hr, h5⟩
      have HQ := Lib.hid hq
      have HR := Lib.hid hr
      have bd := bd.trans (h5.mono bd.size)
      obtain ⟨aq, n8, cq, zq, rfl, hrest⟩ := hq
      obtain ⟨ar, n9, cr, zr, rfl, hrest'⟩ := hr
      clear hrest hrest' HX HY
      have hsp2 : sx = false ∨ (sx = true ∧ n9 = 0) := by
        cases sx
        · exact .inl rfl
        · refine .inr ⟨rfl, ?_⟩
          rcases hsp with h | h
          · cases h
          · rcases Nat.eq_zero_or_pos n9 with h0 | h0
            · exact h0
            · have := (mgI_len HR.out).1 h0; omega
      rcases hsp2 with rfl | ⟨rfl, rfl⟩
      all_goals
        first | rw [Bool.false_bne] at hM1 | rw [Bool.true_bne] at hM1
        go_wp2_with fail
        refine (hM1.out _ _ HQ.out (tab_below htab bd)).mono ?_
        rintro e w9 ⟨rfl, h9⟩
        have HR := Lib.hid (HR.out.below h9)
        have bd := bd.trans (h9.mono bd.size)
        go_wp2_with fail
        refine (hM2.out _ _ HR.out (tab_below htab bd)).mono ?_
        rintro e w10 ⟨rfl, h10⟩
        have bd := bd.trans (h10.mono bd.size)
        go_wp2_with fail
        go_ret2
        exact ⟨rfl, bd⟩

/-- The reference's DivMod. -/
theorem ref_divmod_n (x y : Int) (w : World) (hy0 : y ≠ 0) (hx : (itoa x).length ≤ 100000) (hy : (itoa y).length ≤ 100000) (htab : TabIs Tryz.prog w "internal/strconv.uint64pow10" .u64 pow10Tab) :
    Calls Tryz.prog 12 #[.string ⟨(itoa x).toArray⟩, .string ⟨(itoa y).toArray⟩] w fun e w' => e = .returned (.tuple #[.string ⟨(itoa (x / y)).toArray⟩, .string ⟨(itoa (x % y)).toArray⟩]) ∧ Below w.heap.size w w' := by
  by_cases h : (decDigits x.natAbs).length ≤ 17 ∧ (decDigits y.natAbs).length ≤ 17
  · exact ref_divmod_quick x y w hy0 h hx hy htab
  · exact ref_divmod_long x y w hy0 h hx hy htab

end Go.Proofs.YtpjknkembghjcaaGreatDoor

set_option linter.unusedVariables false
set_option linter.unusedSimpArgs false
namespace Go.Proofs.YtpjknkembghjcaaGreatDoor
open Go.RowKit Go.Lib Go.Proofs.YtpjknkembghjcaaGreatDoor.Dec Go.Proofs.YtpjknkembghjcaaGreatDoor.Mag Go.Proofs.YtpjknkembghjcaaGreatDoor.Chunk

theorem pow_len {x : Int} {k : Nat} (hk : 1 ≤ k) (hx : (itoa x).length ≤ k) (n : Nat) (hn : n ≤ 25) : (itoa (x ^ n)).length ≤ 25 * k + 2 := by
  refine Nat.le_trans (itoa_len_of (k := 25 * k + 1) (by omega) ?_) (by omega)
  rw [Int.natAbs_pow]
  have h1 : x.natAbs ^ n ≤ (10 ^ k) ^ n := Nat.pow_le_pow_left (Nat.le_of_lt (natAbs_of_len hx)) n
  rw [← Nat.pow_mul] at h1
  have h2 : 10 ^ (k * n) ≤ 10 ^ (25 * k) := Nat.pow_le_pow_right (by decide) (by rw [Nat.mul_comm]; exact Nat.mul_le_mul_right _ hn)
  have h3 : 10 ^ (25 * k) < 10 ^ (25 * k + 1) := Nat.pow_lt_pow_right (by decide) (Nat.lt_succ_self _)
  omega

set_option maxHeartbeats 1000000 in
set_option maxRecDepth 100000 in
theorem ref_power_n (x : Int) (n : Nat) (w : World) (hx : (itoa x).length ≤ 100) (hn : n ≤ 25) (htab : TabIs Tryz.prog w "internal/strconv.uint64pow10" .u64 pow10Tab) :
    Calls Tryz.prog 23 #[.string ⟨(itoa x).toArray⟩, .int .i64 (n : Int)] w fun e w' => e = .returned (.string ⟨(itoa (x ^ n)).toArray⟩) ∧ Below w.heap.size w w' := by
  have h1 : (⟨#[49]⟩ : ByteArray) = ⟨(itoa 1).toArray⟩ := by
    rw [Dec.itoa_nonneg (by decide)]
    have h2 := dec_dval (c := 49) (l := []) (AllDig.cons (by decide) AllDig.nil) (Or.inr (by decide))
    have h3 : dval [49] = 1 := by rw [dval_cons, dval_nil]; rfl
    rw [h3] at h2
    rw [show Int.natAbs 1 = 1 from rfl, h2]
  have H1 := Lib.hid h1
  clear h1
  go_enter Tryz.func23, Tryz.ntmps23
  go_wp2_with fail
  go_loopw [5, 6] (fun ov iv wr => ∃ k : Nat, iv = .int .i64 k ∧ k ≤ n ∧ ov = .string ⟨(itoa (x ^ k)).toArray⟩ ∧ Below w.heap.size w wr) (fun _ i _ => n - (intOf i).toNat)
  case atStart => exact ⟨0, rfl, Nat.zero_le _, by rw [Int.pow_zero, ← H1.out], Below.refl _ _⟩
  case round =>
    obtain ⟨k, rfl, hk, rfl, hb⟩ := hrel
    obtain ⟨wo, rfl⟩ : ∃ wo : World, wo = wr := ⟨_, rfl⟩
    by_cases hlt : k < n
    · have hM := Lib.hid (fun w htab => ref_mul_n (x ^ k) x w (Nat.le_trans (pow_len (by decide) hx k (by omega)) (by decide)) (by omega) htab)
      rw [← Int.pow_succ] at hM
      generalize x ^ k = y at *
      go_wp2_with (go_at_call 13; refine (hM.out _ (tab_below htab hb)).mono ?_; rintro e w1 ⟨rfl, h1⟩)
      go_roundw
      case rel => exact ⟨k + 1, rfl, by omega, rfl, hb.trans (h1.mono hb.size)⟩
      case measure => simp [intOf]; omega
    · obtain rfl : k = n := by omega
      go_wp2_with fail
      go_ret
      exact ⟨rfl, hb⟩

set_option maxHeartbeats 1000000 in
theorem ref_abs_p (x : Int) (w : World) (hl : (itoa x).length ≤ 1000000) :
    Calls Tryz.prog 22 #[.string ⟨(itoa x).toArray⟩] w fun e w' => e = .returned (.string ⟨(decDigits x.natAbs).toArray⟩) ∧ Below w.heap.size w w' := by
  have hS := Lib.hid (fun w => ref_split_n x w (by omega))
  go_enter Tryz.func22, Tryz.ntmps22
  go_wp2_with (go_at_call 42; refine (hS.out _).mono ?_; rintro e w1 ⟨rfl, h1⟩; have b1 := below_dn h1; clear h1)
  go_ret
  exact ⟨rfl, b1⟩

end Go.Proofs.YtpjknkembghjcaaGreatDoor

set_option linter.unusedVariables false
set_option linter.unusedSimpArgs false
namespace Go.Proofs.YtpjknkembghjcaaGreatDoor
open Go.RowKit Go.Lib Go.Proofs.YtpjknkembghjcaaGreatDoor.Dec Go.Proofs.YtpjknkembghjcaaGreatDoor.Mag Go.Proofs.YtpjknkembghjcaaGreatDoor.Chunk

/-- The number that a text of digits writes (a measure). -/
def strNum (v : Value) : Nat := match v with | .string s => dval s.data.toList | _ => 0
theorem strNum_itoa (u : Nat) : strNum (.string ⟨(itoa (u : Int)).toArray⟩) = u := by rw [itoa_nat]; show dval (decDigits u).toArray.toList = u; simp [dval_dec]
theorem len_mono {x : Nat} {y : Nat} {k : Nat} (h : x ≤ y) (hy : (itoa (y : Int)).length ≤ k) : (itoa (x : Int)).length ≤ k := by
  rw [itoa_nat] at *; exact Nat.le_trans (dec_len_mono h) hy

set_option maxHeartbeats 1000000 in
set_option maxRecDepth 100000 in
theorem ref_gcd_n (x y : Int) (w : World) (hx : (itoa x).length ≤ 100000) (hy : (itoa y).length ≤ 100000) (htab : TabIs Tryz.prog w "internal/strconv.uint64pow10" .u64 pow10Tab) :
    Calls Tryz.prog 15 #[.string ⟨(itoa x).toArray⟩, .string ⟨(itoa y).toArray⟩] w fun e w' => e = .returned (.string ⟨(itoa (Int.gcd x y : Int)).toArray⟩) ∧ Below w.heap.size w w' := by
  have hA := Lib.hid (fun w => ref_abs_n x w (by omega))
  have hB := Lib.hid (fun w => ref_abs_n y w (by omega))
  have lx : (itoa (x.natAbs : Int)).length ≤ 100000 := by rw [itoa_nat]; exact Nat.le_trans (digs_len x) hx
  have ly : (itoa (y.natAbs : Int)).length ≤ 100000 := by rw [itoa_nat]; exact Nat.le_trans (digs_len y) hy
  have HG := Lib.hid (show Nat.gcd x.natAbs y.natAbs = Int.gcd x y from rfl)
  generalize Int.gcd x y = g at *
  generalize x.natAbs = X at *
  generalize y.natAbs = Y at *
  clear hx hy
  go_enter Tryz.func15, Tryz.ntmps15
  have bd := Below.refl w.heap.size w
  go_wp2_with (first
    | (go_at_call 22; (with_reducible refine (hA.out _).mono ?_); rintro e w1 ⟨rfl, h1⟩; have bd := bd.trans (h1.mono bd.size))
    | (go_at_call 22; (with_reducible refine (hB.out _).mono ?_); rintro e w1 ⟨rfl, h1⟩; have bd := bd.trans (h1.mono bd.size)))
  go_loopw [0, 1] (fun av bv wr => ∃ p q : Nat, av = .string ⟨(itoa p).toArray⟩ ∧ bv = .string ⟨(itoa q).toArray⟩ ∧ Hid (Nat.gcd p q = g) ∧ (itoa p).length ≤ 100000 ∧ (itoa q).length ≤ 100000 ∧ Below w.heap.size w wr) (fun _ bv _ => strNum bv)
  case atStart => exact ⟨X, Y, rfl, rfl, HG, lx, ly, by assumption⟩
  case round =>
    obtain ⟨p, q, rfl, rfl, hg, lp, lq, hb⟩ := hrel
    obtain ⟨wo, rfl⟩ : ∃ wo : World, wo = wr := ⟨_, rfl⟩
    by_cases hq : q = 0
    · subst hq
      have hp : p = g := by have := hg.out; rwa [Nat.gcd_zero_right] at this
      subst hp
      have hz : itoa ((0 : Nat) : Int) = [48] := itoa_zero
      rw [hz]
      go_wp2_with fail
      go_ret
      exact ⟨rfl, hb⟩
    · have hqz : (itoa (q : Int) == [48]) = false := by rw [beq_eq_false_iff_ne]; intro e; exact hq (by have := itoa_eq_zero.1 e; omega)
      have hlt : p % q < q := Nat.mod_lt _ (by omega)
      have hD := Lib.hid (fun w htab => ref_divmod_n (p : Int) (q : Int) w (by omega) lp lq htab)
      rw [← Int.natCast_emod, ← Int.natCast_ediv] at hD
      have lm := len_mono (Nat.le_of_lt hlt) lq
      have hg2 := Lib.hid (show Nat.gcd q (p % q) = g by rw [← hg.out, Nat.gcd_comm p q, Nat.gcd_rec q p, Nat.gcd_comm])
      have HS := Lib.hid (show strNum (.string ⟨(itoa ((p % q : Nat) : Int)).toArray⟩) < strNum (.string ⟨(itoa (q : Int)).toArray⟩) by rw [strNum_itoa, strNum_itoa]; exact hlt)
      generalize p % q = r at *
      generalize p / q = d at *
      go_wp2_with (go_at_call 12; refine (hD.out _ (tab_below htab hb)).mono ?_; rintro e w1 ⟨rfl, h1⟩)
      go_roundw
      case rel => exact ⟨q, r, rfl, rfl, hg2, lq, lm, hb.trans (h1.mono hb.size)⟩
      case measure => exact HS.out

theorem pow10_len (k : Nat) : (itoa ((10 ^ k : Nat) : Int)).length = k + 1 := by
  rw [itoa_nat]
  have h1 : k < (decDigits (10 ^ k)).length := by
    have := lt_pow_dec (10 ^ k)
    exact (Nat.pow_lt_pow_iff_right (by decide)).1 this
  have h2 := dec_len_le (u := 10 ^ k) (k := k + 1) (by omega) (Nat.pow_lt_pow_right (by decide) (Nat.lt_succ_self _))
  omega

set_option maxHeartbeats 1000000 in
set_option maxRecDepth 100000 in
/-- The reference's Root of an integer that is not negative. -/
theorem ref_root_n (x r : Int) (w : World) (hx0 : 0 ≤ x) (hx : (itoa x).length ≤ 49) (hr0 : 0 ≤ r) (hr1 : r * r ≤ x) (hr2 : x < (r + 1) * (r + 1)) (htab : TabIs Tryz.prog w "internal/strconv.uint64pow10" .u64 pow10Tab) :
    Calls Tryz.prog 20 #[.string ⟨(itoa x).toArray⟩] w fun e w' => e = .returned (.string ⟨(itoa r).toArray⟩) ∧ Below w.heap.size w w' := by
  by_cases hz : x = 0
  · subst hz
    obtain rfl : r = 0 := Num.root_unique hr0 (Int.le_refl _) hr1 hr2 (by decide) (by decide)
    rw [itoa_zero]
    go_enter Tryz.func20, Tryz.ntmps20
    go_wp2_with fail
    go_ret
    exact ⟨rfl, Below.refl _ _⟩
  · have hxz : (itoa x == [48]) = false := by rw [beq_eq_false_iff_ne]; intro e; exact hz (itoa_eq_zero.1 e)
    have HU := Lib.hid (show ∀ z : Int, 0 < z → z * z ≤ x → x < (z + 1) * (z + 1) → z = r from fun z z0 z1 z2 => Num.root_unique (by omega) hr0 z1 z2 hr1 hr2)
    clear hr0 hr1 hr2
    have hst := str_size (itoa x)
    have hlen := itoa_len_le (k := (itoa x).length) (Nat.le_refl _)
    obtain ⟨n, hn⟩ : ∃ n, (itoa x).length = n := ⟨_, rfl⟩
    rw [hn] at hlen hst hx
    obtain ⟨k, hk⟩ : ∃ k : Nat, (n + 1) / 2 = k := ⟨_, rfl⟩
    have hk2 : ((n : Int) + 1) / 2 = (k : Int) := by omega
    have hk3 : ((n : Int) + 1).tdiv 2 = (k : Int) := by rw [Int.tdiv_eq_ediv_of_nonneg (by omega)]; exact hk2
    have hkl : k ≤ 25 := by omega
    have t10 : itoa 10 = [49, 48] := by rw [Dec.itoa_nonneg (by decide), dec_big (by decide), dec_small (by decide)]; rfl
    have t2 : itoa 2 = [50] := by rw [Dec.itoa_nonneg (by decide), dec_small (by decide)]; rfl
    have hP := Lib.hid (fun w htab => ref_power_n 10 k w (by rw [t10]; decide) hkl htab)
    have hKe : (10 : Int) ^ k = ((10 ^ k : Nat) : Int) := by simp
    rw [t10, hKe] at hP
    have lK := pow10_len k
    have hKp : 0 < 10 ^ k := Nat.pos_of_ne_zero (by simp)
    have HK1 := Lib.hid (show x < (((10 ^ k : Nat) : Int) + 1) * (((10 ^ k : Nat) : Int) + 1) by
      have h1 : (10 : Int) ^ n ≤ (10 : Int) ^ (k + k) := pow_mono (by decide) (by omega)
      rw [Int.pow_add, hKe] at h1
      have h4 : (((10 ^ k : Nat) : Int) + 1) * (((10 ^ k : Nat) : Int) + 1) = ((10 ^ k : Nat) : Int) * ((10 ^ k : Nat) : Int) + 2 * ((10 ^ k : Nat) : Int) + 1 := by grind
      omega)
    clear hKe hlen
    generalize 10 ^ k = K at *
    have lx := hx
    rw [← hn] at lx
    go_enter Tryz.func20, Tryz.ntmps20
    go_wp2_with (go_at_call 23; first | rw [hk2] | rw [hk3] | skip; refine (hP.out _ htab).mono ?_; rintro e w1 ⟨rfl, h1⟩)
    have bd := h1
    go_loopw [3] (fun xv wr => ∃ z : Nat, xv = .string ⟨(itoa (z : Int)).toArray⟩ ∧ 0 < z ∧ z ≤ K ∧ Hid (x < ((z : Int) + 1) * ((z : Int) + 1)) ∧ Below w.heap.size w wr) (fun xv _ => strNum xv)
    case atStart => exact ⟨K, rfl, hKp, Nat.le_refl _, HK1, by assumption⟩
    case round =>
      obtain ⟨z, rfl, z0, zK, HZX, hb⟩ := hrel
      obtain ⟨wo, rfl⟩ : ∃ wo : World, wo = wr := ⟨_, rfl⟩
      have lz : (itoa (z : Int)).length ≤ 26 := len_mono zK (by rw [lK]; omega)
      have HY1 := Lib.hid (Num.newton_low (n := x) (x := (z : Int)) hx0 (by omega))
      have HY2 := Lib.hid (fun h => Num.newton_stop (n := x) (x := (z : Int)) hx0 (by omega) h)
      have y3 := Num.newton_pos (n := x) (x := (z : Int)) (by omega) (by omega)
      have q0 := Int.ediv_nonneg hx0 (show 0 ≤ (z : Int) by omega)
      have q1 := Int.ediv_le_self (z : Int) hx0
      have hD := Lib.hid (fun w htab => ref_divmod_n x (z : Int) w (by omega) (by omega) (by omega) htab)
      have lq : (itoa (x / (z : Int))).length ≤ 50 := len_of_natAbs (k := 49) (by decide) (show (itoa x).length ≤ 49 by omega) (by omega)
      generalize x / (z : Int) = Q at *
      have hA := Lib.hid (fun w htab => ref_add_n (z : Int) Q w (by omega) (by omega) htab)
      have ls := add_len (x := (z : Int)) (y := Q) (k := 50) (by omega) lq
      have hD2 := Lib.hid (fun w htab => ref_divmod_n ((z : Int) + Q) 2 w (by decide) (by omega) (by rw [t2]; decide) htab)
      rw [t2] at hD2
      have lY : (itoa (((z : Int) + Q) / 2)).length ≤ 53 := len_of_natAbs (k := 52) (by decide) ls (by omega)
      generalize ((z : Int) + Q) / 2 = Y at *
      have hC := Lib.hid (fun w htab => ref_compare_n Y (z : Int) w (by omega) (by omega) htab)
      obtain ⟨y, rfl⟩ : ∃ y : Nat, Y = (y : Int) := ⟨Y.toNat, by omega⟩
      by_cases hlt : y < z
      · rw [cmpI_lt (by omega)] at hC
        have HS := Lib.hid (show strNum (.string ⟨(itoa (y : Int)).toArray⟩) < strNum (.string ⟨(itoa (z : Int)).toArray⟩) by rw [strNum_itoa, strNum_itoa]; exact hlt)
        have bd := hb
        go_wp2_with (first
          | (go_at_call 12; (with_reducible refine (hD.out _ (tab_below htab bd)).mono ?_); rintro e w3 ⟨rfl, h3⟩; have bd := bd.trans (h3.mono bd.size))
          | (go_at_call 16; (with_reducible refine (hA.out _ (tab_below htab bd)).mono ?_); rintro e w3 ⟨rfl, h3⟩; have bd := bd.trans (h3.mono bd.size))
          | (go_at_call 12; (with_reducible refine (hD2.out _ (tab_below htab bd)).mono ?_); rintro e w3 ⟨rfl, h3⟩; have bd := bd.trans (h3.mono bd.size))
          | (go_at_call 29; (with_reducible refine (hC.out _ (tab_below htab bd)).mono ?_); rintro e w3 ⟨rfl, h3⟩; have bd := bd.trans (h3.mono bd.size)))
        go_roundw
        case rel => exact ⟨y, rfl, by omega, by omega, HY1, bd⟩
        case measure => exact HS.out
      · have hzr := Lib.hid (show (z : Int) = r from HU.out (z : Int) (by omega) (HY2.out (by omega)) HZX.out)
        have hc : 0 ≤ cmpI (y : Int) (z : Int) := by
          rcases Int.lt_or_eq_of_le (show (z : Int) ≤ (y : Int) by omega) with h | h
          · rw [cmpI_gt h]; omega
          · rw [cmpI_eq h.symm]; omega
        generalize cmpI (y : Int) (z : Int) = cc at *
        have bd := hb
        go_wp2_with (first
          | (go_at_call 12; (with_reducible refine (hD.out _ (tab_below htab bd)).mono ?_); rintro e w3 ⟨rfl, h3⟩; have bd := bd.trans (h3.mono bd.size))
          | (go_at_call 16; (with_reducible refine (hA.out _ (tab_below htab bd)).mono ?_); rintro e w3 ⟨rfl, h3⟩; have bd := bd.trans (h3.mono bd.size))
          | (go_at_call 12; (with_reducible refine (hD2.out _ (tab_below htab bd)).mono ?_); rintro e w3 ⟨rfl, h3⟩; have bd := bd.trans (h3.mono bd.size))
          | (go_at_call 29; (with_reducible refine (hC.out _ (tab_below htab bd)).mono ?_); rintro e w3 ⟨rfl, h3⟩; have bd := bd.trans (h3.mono bd.size)))
        go_ret
        exact ⟨by rw [← hzr.out]; rfl, bd⟩

end Go.Proofs.YtpjknkembghjcaaGreatDoor

set_option linter.unusedVariables false
set_option linter.unusedSimpArgs false
namespace Go.Proofs.YtpjknkembghjcaaGreatDoor
open Go.RowKit Go.Lib Go.Proofs.YtpjknkembghjcaaGreatDoor.Dec Go.Proofs.YtpjknkembghjcaaGreatDoor.Mag Go.Proofs.YtpjknkembghjcaaGreatDoor.Chunk

set_option maxHeartbeats 4000000 in
set_option maxRecDepth 100000 in
theorem law_roots (minus : Bool) (A : Option Addr) (ca : Nat) (ds : List Int) (n : Int) (w : World) (hr : RdB w A ds) (hb : ∀ k, k < ds.length → 0 ≤ ds.getD k 0 ∧ ds.getD k 0 < 256) (h0 : -128 ≤ n) (h1 : n ≤ 127)
    (htab : TabIs Tryz.prog w "internal/strconv.uint64pow10" .u64 pow10Tab) :
    Calls Tryz.prog 5 #[.agg #[.bool minus, .slice A ds.length ca], .int .i8 n] w fun e w' => e = .returned (.bool true) ∧ Below w.heap.size w w' := by
  have hM := Lib.hid (fun w hr => make_i 40 minus A ca ds 40 rfl w hr hb (by decide))
  have hM2 := Lib.hid (fun w hr => make_i 20 minus A ca ds 20 rfl w hr hb (by decide))
  have la := makeVal_len minus ds 40 (by decide)
  have lm := makeVal_len minus ds 20 (by decide)
  generalize makeVal minus ds 40 = a at *
  generalize makeVal minus ds 20 = m at *
  have R0 := Lib.hid (fun w' (h : Below w.heap.size w w') => hr.below h)
  have lmm := mul_len (by decide) lm lm
  have ln := itoa_int_len (x := n) (by omega) (by omega)
  have hMul := Lib.hid (fun w htab => ref_mul_n m m w (by omega) (by omega) htab)
  have hOf := Lib.hid (fun w htab => ref_of_n n (by omega) (by omega) w htab)
  have hAdd := Lib.hid (fun w htab => ref_add_n (m * m) n w (by omega) (by omega) htab)
  have lb := add_len (x := m * m) (y := n) (k := 44) (by omega) (by omega)
  have hw : IntKind.i64.wrap n = n := by
    have : IntKind.i64.wrap n = (n + 9223372036854775808) % 18446744073709551616 - 9223372036854775808 := by
      simp [IntKind.wrap, IntKind.bits, IntKind.signed]
      split <;> omega
    omega
  have HW := Lib.hid hw
  clear hw
  generalize m * m = mm at *
  generalize hb2 : mm + n = b at *
  clear hb2 hb hr
  go_enter Tryz.func5, Tryz.ntmps5
  go_wp2_with fail
  have b0 : Below w.heap.size w (w.alloc (.cells #[.bool minus, .slice A ds.length ca] 24)) := (Below.refl _ _).alloc (Nat.le_refl _) _
  refine (known_n _ (tab_below htab b0)).mono ?_
  rintro e w1 ⟨rfl, hk1⟩
  have b1 := b0.trans (hk1.mono b0.size)
  have hs1 : w.heap.size < w1.heap.size := by have := hk1.size; simp at this; omega
  have hS := Lib.hid (show ∀ w', Below w1.heap.size w1 w' → (w'.cell? ⟨w.heap.size, 0, none⟩ = some (.bool minus) ∧ w'.cell? ⟨w.heap.size, 1, none⟩ = some (.slice A ds.length ca)) from fun w' h =>
    ⟨(h.cell (p := ⟨w.heap.size, 0, none⟩) hs1).trans (by rw [hk1.cell (p := ⟨w.heap.size, 0, none⟩) (by simp)]; simp), (h.cell (p := ⟨w.heap.size, 1, none⟩) hs1).trans (by rw [hk1.cell (p := ⟨w.heap.size, 1, none⟩) (by simp)]; simp)⟩)
  obtain ⟨c0, c1⟩ := hS.out _ (Below.refl _ _)
  have hk0 : Below w1.heap.size w1 w1 := Below.refl _ _
  have bd : Below w.heap.size w w1 := b1
  clear b0 hk1 b1 hs1
  go_wp2_with (go_at_call 10; (with_reducible refine (hM.out _ (R0.out _ bd)).mono ?_); rintro e w2 ⟨rfl, h2⟩; have bd := bd.trans (h2.mono bd.size); have hk0 := hk0.trans (h2.mono hk0.size); refine Hid.out ?_)
  refine Lib.hid ?_
  clear c0 c1
  have bd := bd.drew
  have hk0 := hk0.drew
  clear hM
  go_upto_region 5 with (fail)
  go_cut [24, 25, 26] (fun s24 s25 s26 wx => ∃ g, s24 = .slice (some ⟨g, 0, none⟩) 2 2 ∧ s25 = .int .i64 2 ∧ s26 = .int .i64 0 ∧ g < wx.heap.size ∧ wx.cell? ⟨g, 0, none⟩ = some (.string ⟨(itoa a).toArray⟩) ∧ wx.cell? ⟨g, 1, none⟩ = some (.string ⟨(itoa b).toArray⟩) ∧ Below w.heap.size w wx)
  case first =>
    go_region_held3 (fun w' => w'.cell? ⟨w.heap.size, 0, none⟩ = some (.bool minus) ∧ w'.cell? ⟨w.heap.size, 1, none⟩ = some (.slice A ds.length ca)) (exact hS.out _ (by first | assumption | exact hk0.alloc hk0.size _)) (first
      | (go_at_call 10; (with_reducible refine (hM2.out _ (R0.out _ (by assumption))).mono ?_); rintro e w2 ⟨rfl, h2⟩; have bd := bd.trans (h2.mono bd.size); have hk0 := hk0.trans (h2.mono hk0.size))
      | (go_at_call 13; (with_reducible refine (hMul.out _ (tab_below htab bd)).mono ?_); rintro e w2 ⟨rfl, h2⟩; have bd := bd.trans (h2.mono bd.size); have hk0 := hk0.trans (h2.mono hk0.size))
      | (go_at_call 17; rw [HW.out]; (with_reducible refine (hOf.out _ (tab_below htab bd)).mono ?_); rintro e w2 ⟨rfl, h2⟩; have bd := bd.trans (h2.mono bd.size); have hk0 := hk0.trans (h2.mono hk0.size))
      | (go_at_call 16; (with_reducible refine (hAdd.out _ (tab_below htab bd)).mono ?_); rintro e w2 ⟨rfl, h2⟩; have bd := bd.trans (h2.mono bd.size); have hk0 := hk0.trans (h2.mono hk0.size)))
    all_goals
      go_wp2_with fail
      go_meet
      exact ⟨w2.heap.size, rfl, rfl, rfl, by simp, by simp, by simp, bd.alloc bd.size _⟩
  case rest =>
    obtain ⟨g, rfl, rfl, rfl, hg, cg0, cg1, hbd⟩ := hcut
    have HROOT := Lib.hid (show ∀ X : Int, (X = a ∨ X = b) → (itoa X).length ≤ 49 from fun X h => by rcases h with rfl | rfl <;> omega)
    clear hS hM2 R0 hMul hOf hAdd hk0 la lm lmm ln lb bd
    go_wp2_with fail
    go_loopw [26] (fun i wr => ∃ k : Nat, i = .int .i64 k ∧ k ≤ 2 ∧ Below wc.heap.size wc wr) (fun i _ => 2 - (intOf i).toNat)
    case atStart => exact ⟨0, rfl, by decide, Below.refl _ _⟩
    case round =>
      obtain ⟨k, rfl, hk, hb⟩ := hrel
      obtain ⟨wo, rfl⟩ : ∃ wo : World, wo = wr := ⟨_, rfl⟩
      by_cases hlt : k < 2
      · obtain ⟨X, hX, hc⟩ : ∃ X : Int, (X = a ∨ X = b) ∧ wc.cell? ⟨g, k, none⟩ = some (.string ⟨(itoa X).toArray⟩) := by
          rcases (show k = 0 ∨ k = 1 by omega) with rfl | rfl
          · exact ⟨a, .inl rfl, cg0⟩
          · exact ⟨b, .inr rfl, cg1⟩
        have hc' := (hb.cell (p := ⟨g, k, none⟩) hg).trans hc
        have lX := HROOT.out X hX
        obtain ⟨s1, s2⟩ := sign_bound X
        clear cg0 cg1 hc hX
        have bd := hbd.trans (hb.mono hbd.size)
        have hS := Lib.hid (fun w => ref_sign_n X w (by omega))
        by_cases hneg : X < 0
        · have hN := Lib.hid (fun w => root_neg X w hneg)
          have hsg : X.sign < 0 := by rw [Int.sign_eq_neg_one_of_neg hneg]; decide
          generalize X.sign = sg at *
          go_wp2_with (first
            | (go_at_call 18; (with_reducible refine (hN.out _).mono ?_); rintro e w3 ⟨rfl, h3⟩; subst h3)
            | (go_at_call 19; (with_reducible refine (hS.out _).mono ?_); rintro e w3 ⟨rfl, h3⟩; have bd := bd.trans (h3.mono bd.size); have hb := hb.trans (h3.mono hb.size)))
          go_roundw
          case rel => exact ⟨k + 1, rfl, by omega, hb⟩
          case measure => simp [intOf]; omega
        · have hX0 : 0 ≤ X := Int.not_lt.1 hneg
          obtain ⟨r, hr0, hr1, hr2, lr⟩ := root_facts (k := 49) (by decide) hX0 lX
          have hN := Lib.hid (fun w htab => root_n X r w hX0 (by omega) (fun z hz => divAt_all (lim_nonneg (K := 900000) hX0 lX (by decide)) hz) hr0 hr1 hr2 htab)
          have hR := Lib.hid (fun w htab => ref_root_n X r w hX0 lX hr0 hr1 hr2 htab)
          have hsg := sign_nonneg hX0
          clear hr0 hr1 hr2 hX0
          generalize X.sign = sg at *
          go_wp2_with (first
            | (go_at_call 18; (with_reducible refine (hN.out _ (tab_below htab bd)).mono ?_); rintro e w3 ⟨rfl, h3⟩; have bd := bd.trans (h3.mono bd.size); have hb := hb.trans (h3.mono hb.size))
            | (go_at_call 19; (with_reducible refine (hS.out _).mono ?_); rintro e w3 ⟨rfl, h3⟩; have bd := bd.trans (h3.mono bd.size); have hb := hb.trans (h3.mono hb.size))
            | (go_at_call 20; (with_reducible refine (hR.out _ (tab_below htab bd)).mono ?_); rintro e w3 ⟨rfl, h3⟩; have bd := bd.trans (h3.mono bd.size); have hb := hb.trans (h3.mono hb.size)))
          go_roundw
          case rel => exact ⟨k + 1, rfl, by omega, hb⟩
          case measure => simp [intOf]; omega
      · obtain rfl : k = 2 := by omega
        go_wp2_with fail
        go_ret
        exact ⟨rfl, hbd.trans (hb.mono hbd.size)⟩

end Go.Proofs.YtpjknkembghjcaaGreatDoor

set_option linter.unusedVariables false
namespace Go.Proofs.YtpjknkembghjcaaGreatDoor
open Go.ChangeShapes Go.WideShapes Go.ChangeAt Go.RowKit Go.ChangeMaps

set_option maxRecDepth 100000 in
theorem integerRoots_lifted (os : Os) (started : os.Started) (H : Type) (enc : TypeId × Value → H) :
    ReturnsInHanded {} Tryz.checked os 5 .any (fun w args => (Rows.integerRootsSpec.pre enc Tryz.prog Tryz.f5 Rows.integerRootsRow.domain false w args ∧ laidMetH Tryz.prog Rows.integerRootsRow.laid w) ∧ sizedMet enc Tryz.prog Tryz.f5 (OpenSpec.ofChange Rows.integerRootsSpec) false w args)
      (Rows.integerRootsSpec.post enc Tryz.prog Tryz.f5 false true false false) := by
  refine returnsInHanded_of_change_and (C := Tryz.checked) (X := fun w _ => laidMetH Tryz.prog Rows.integerRootsRow.laid w) (fun _ _ _ hh h => h.of_heap hh) own started (by kernel_rfl) Tryz.func5
    (ChangeSpec.witness_shaped (enc := enc) (C := Tryz.checked) (os := os) (X := fun w _ => laidMetH Tryz.prog Rows.integerRootsRow.laid w) false (World.laidAll Tryz.prog os Rows.integerRootsRow.laid) #[.agg #[.bool false, .slice none 0 0], .int .i8 0] 8 (World.laidAll_os _ _ _)
      (World.shaped_of_ZipB (by kernel_rfl) (by kernel_rfl)) (by kernel_rfl) (by kernel_rfl) (by kernel_rfl)
      (by rw [MakeChecks.laidMetH_plain _ _ _ (by kernel_rfl)]; exact laidMet_laidAll _ (by kernel_rfl) (by kernel_rfl))) ?_
  intro W base args ds gs before hval0 hW _ _ hL _
  have hval : ∀ (j : Nat) t v, Tryz.f5.params[j]? = some t → args[j]? = some v → Value.okWide Tryz.prog W .any base t v := hval0
  have hW' := hW
  obtain ⟨p, q, hA0, hV, rfl, _, _⟩ := hW
  have hA : DataW.TrodAll enc Tryz.prog W 0 (fun _ => true) true Tryz.f5.params.toList args.toList ds p := hA0
  rw [Tryz.params5] at hA hval
  obtain ⟨v0, v1, d0, d1, p0, p1, rfl, rfl, rfl, h0, h1⟩ := trodAll_two hA
  obtain ⟨rfl, rfl⟩ := trodVars_none hV
  obtain ⟨m0, A0, cp0, ds0, rfl, hr0, hb0⟩ := open_written (hval 0 24 v0 rfl rfl) h0
  obtain ⟨n1, rfl, rfl, rfl, wn1⟩ := open_int Tryz.underlying36 (hval 1 36 v1 rfl rfl) h1
  have htab := laid_pow W hL
  clear hA0 hval0
  rw [List.append_nil] at hW'
  have hltp : ∀ x ∈ p0 ++ [], x.block < W.heap.size := fun x hx => by simpa using hW'.lt x (by simpa using hx)
  have hc0 : ∀ (W' : World), Below W.heap.size W W' → DataW.Trod enc Tryz.prog W' 0 (fun b => decide (b < W.heap.size)) true 24 (.agg #[.bool m0, .slice A0 ds0.length cp0]) d0 p0 :=
    fun W' hn => Below.trod laidOut (by kernel_rfl) (of_decide_eq_true (by kernel_rfl)) h0 hn (fun x hx => hltp x (by simp [hx]))
  have fin : Calls Tryz.prog 5 #[.agg #[.bool m0, .slice A0 ds0.length cp0], .int .i8 n1] W fun e w' => e = .returned (.bool true) ∧ Below W.heap.size W w' := by
    simp only [Lit.wf, Bool.and_eq_true, decide_eq_true_eq] at wn1
    exact law_roots m0 A0 cp0 ds0 n1 W hr0 hb0 (Int.le_trans (by decide) wn1.1) (Int.le_trans wn1.2 (by decide)) htab
  refine fin.mono fun e W' ⟨he, hb⟩ => ?_
  subst he
  exact ⟨_, rfl, _, _, _, [], p0 ++ [], [], hW', trodAll_mk1 (shut_bool Tryz.underlying4 _), trodAll_mk2 (hc0 W' hb) (shut_int Tryz.underlying36 wn1), rfl, hb.frame _, fun h => by cases h⟩

theorem integerRoots_holds : Rows.IntegerRootsSaid :=
  OpenClaim.holds_of_wide 5 Tryz.f5 rfl rfl rfl rfl rfl rfl rfl ⟨rfl, rfl, rfl, rfl, rfl⟩ rfl rfl rfl rfl rfl (by kernel_rfl) Tryz.func5 (by kernel_rfl)
    (of_decide_eq_true (by kernel_rfl)) (by unfold Func.isWrapper; first | (rw [if_pos (by decide +kernel)]; kernel_rfl) | (rw [if_neg (by decide +kernel)]; exact ⟨rfl, rfl⟩))
    (fun os started H enc _ => integerRoots_lifted os started H enc)

/-- THE CARD. -/
theorem integerRoots_card : Rows.IntegerRootsCardSaid :=
  Claim7.holds_tied_plain_at .later [] [.data, .data, .data, .data, .sentinel, .sentinel, .pinned] true (true, "42bb0bd18d8659f85ca24f2005ecba34303dc51ca49e8e5cee83acccd5af107e") true integerRoots_holds (fun _ h => by cases h) (by kernel_rfl) (fun _ h => by cases h) integerRoots_row_tie rfl ⟨rfl, rfl⟩ (by kernel_rfl) rfl
    (fun f fn hf hfn => by
      obtain rfl : f = 5 := Option.some.inj ((show Tryz.prog.funcNamed "klippe/klippelaw01.IntegerRoots" = some 5 by kernel_rfl).symm.trans hf) |>.symm
      obtain rfl : fn = Tryz.f5 := (Option.some.inj (Tryz.func5.symm.trans hfn)).symm
      exact ⟨by kernel_rfl, fun j t ht => by
        rw [Tryz.params5] at ht
        have hm : t ∈ [24, 36] := by simpa using Array.mem_of_getElem? ht
        have hall : ([24, 36].all fun u => !Tryz.prog.wantsStandIn u) = true := by kernel_rfl
        exact (show Tryz.prog.wantsStandIn t = false by simpa using List.all_eq_true.1 hall t hm)⟩)
    (by kernel_rfl)
#print axioms integerRoots_card

end Go.Proofs.YtpjknkembghjcaaGreatDoor

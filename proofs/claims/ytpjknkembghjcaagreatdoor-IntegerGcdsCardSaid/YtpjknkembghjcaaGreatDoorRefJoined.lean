/- The reference's joined, from place 0 on. -/
import Derived.Test.YtpjknkembghjcaaGreatDoorRefCarry
import Derived.RegionTactic
import Derived.BigRegion
set_option linter.unusedVariables false
set_option linter.unusedSimpArgs false
namespace Go.Proofs.YtpjknkembghjcaaGreatDoor
open Go.RowKit Go.Lib Go.Proofs.YtpjknkembghjcaaGreatDoor.Dec Go.Proofs.YtpjknkembghjcaaGreatDoor.Mag Go.Proofs.YtpjknkembghjcaaGreatDoor.Chunk

/-- A slice's length (a measure). -/
def lenOf (v : Value) : Nat := match v with | .slice _ n _ => n | _ => 0
theorem own_some {w : World} {base : Nat} {e : TypeId} {v : Value} {n : Nat} {xs : List Value} (h : w.ownsRow base e 1 v n xs) (h0 : 0 < n) : ∃ g cap, v = .slice (some ⟨g, 0, none⟩) n cap ∧ base ≤ g := by
  rcases h.2 with ⟨rfl, h1⟩ | ⟨g, cap, cur, rfl, hg, _⟩
  · omega
  · exact ⟨g, cap, rfl, hg⟩
theorem own_at {w : World} {base : Nat} {e : TypeId} {v : Value} {n g cap : Nat} {os : List Int} (h : w.ownsRow base e 1 v n (os.map (Value.int .i64))) (hv : v = .slice (some ⟨g, 0, none⟩) n cap) (hl : os.length = n) (j : Nat) (hj : j < n) :
    w.cell? ⟨g, j, none⟩ = some (.int .i64 (os.getD j 0)) := by
  subst hv
  rw [h.cellAt j (by omega), List.getElem?_map, List.getD_eq_getElem?_getD, List.getElem?_eq_getElem (by omega)]; rfl
theorem join_add {k y o T : Int} {os ys : List Int} {j : Nat} (hi : j < os.length) (h : pv 10000 os = T + k * pv 10000 (ys.take j)) (ho : os.getD j 0 = o) (hy : ys.getD j 0 = y) :
    pv 10000 (os.set j (o + k * y)) = T + k * pv 10000 (ys.take (j + 1)) := by
  rw [pv_set _ _ _ _ hi, h, ho, pv_take_any, hy]
  grind
theorem getD_set_any' (l : List Int) (i j : Nat) (x : Int) : (l.set i x).getD j 0 = l.getD j 0 ∨ (j = i ∧ (l.set i x).getD j 0 = x) := by
  by_cases h : i = j
  · subst h
    by_cases hl : i < l.length
    · right; exact ⟨rfl, by simp [List.getD_eq_getElem?_getD, hl]⟩
    · left; rw [List.set_eq_of_length_le (by omega)]
  · left; exact getD_set_other h
theorem pv_zero_end (os : List Int) : pv 10000 (os ++ [0]) = pv 10000 os := by rw [pv_snoc]; simp
theorem getD_zero_end (os : List Int) (j : Nat) : (os ++ [0]).getD j 0 = os.getD j 0 := by
  rw [List.getD_eq_getElem?_getD, List.getD_eq_getElem?_getD]
  rcases Nat.lt_trichotomy j os.length with h | h | h
  · rw [List.getElem?_append_left h]
  · subst h; simp
  · rw [List.getElem?_eq_none (by simp; omega), List.getElem?_eq_none (by omega)]
theorem mul_small {k y : Int} (k0 : -9999 ≤ k) (k1 : k ≤ 9999) (y0 : 0 ≤ y) (y1 : y ≤ 9999) : -99980001 ≤ k * y ∧ k * y ≤ 99980001 := by
  have h1 : k * y ≤ 9999 * y := Int.mul_le_mul_of_nonneg_right k1 y0
  have h2 : -9999 * y ≤ k * y := Int.mul_le_mul_of_nonneg_right k0 y0
  omega

set_option maxHeartbeats 2000000 in
set_option maxRecDepth 100000 in
theorem joined_any (A A' : Option Addr) (ca cb : Nat) (xs ys : List Int) (k : Int) (w : World) (hx : Rd w .i64 A xs) (hy : Rd w .i64 A' ys) (hn : xs.length ≤ 400000) (hm : ys.length ≤ 400000)
    (px : Pcs 10000 xs) (py : Pcs 10000 ys) (hA : A = none → ca = 0) (k0 : -9999 ≤ k) (k1 : k ≤ 9999) (hV : 0 ≤ pv 10000 xs + k * pv 10000 ys) :
    Calls Tryz.prog 45 #[.slice A xs.length ca, .slice A' ys.length cb, .int .i64 k, .int .i64 0] w fun e w' => ∃ v, e = .returned v ∧ MgI w' v (pv 10000 xs + k * pv 10000 ys) ∧ Below w.heap.size w w' := by
  obtain ⟨i0, hi, hz0, hz1, hz2⟩ := info_parts info_i64
  have hlx := hx.1
  go_enter Tryz.func45, Tryz.ntmps45
  go_wp2_with (at_builtin; refine list_append_rd rfl _ _ 62 rfl w.heap.size 3 i0 (.int .i64 0) 8 Tryz.underlying62 hi hz0 hz1 hz2 rfl _ 0 [] rfl (World.ownsRow_lit (e := 3) (size := 1) (base := w.heap.size) w #[] 0 (Nat.le_refl _) (by unfold maxLen; omega) rfl) .i64 A xs.length ca xs rfl (hx.alloc _) rfl hA (by unfold maxLen; omega) (by omega) (by simp) ?_; intro s1 w1 hown1 hgrow1; refine Hid.out ?_)
  refine Lib.hid ?_
  have hnx1 : Below w.heap.size w w1 := ((Below.refl _ _).alloc (Nat.le_refl _) _).grown hgrow1 (by simp) (fun j e => by cases e; exact Nat.le_refl _)
  have hown2 : w1.ownsRow w.heap.size 3 1 s1 xs.length (xs.map (Value.int .i64)) := by simpa using hown1
  clear hown1 hgrow1
  go_wp2_with fail
  go_loopw [9, 10] (fun sv iv wr => ∃ (q : Nat) (os : List Int), iv = .int .i64 q ∧ q ≤ ys.length ∧ wr.ownsRow w.heap.size 3 1 sv os.length (os.map (Value.int .i64)) ∧ os.length ≤ xs.length + q ∧
      Hid (pv 10000 os = pv 10000 xs + k * pv 10000 (ys.take q)) ∧ Hid (∀ j, -1000000000 ≤ os.getD j 0 ∧ os.getD j 0 ≤ 1000000000) ∧ Hid (∀ j, q ≤ j → 0 ≤ os.getD j 0 ∧ os.getD j 0 < 10000) ∧ Below w.heap.size w wr) (fun _ i _ => ys.length - (intOf i).toNat)
  case atStart => exact ⟨0, xs, rfl, Nat.zero_le _, hown2, by omega, Lib.hid (by simp [pv]), Lib.hid (fun j => by have := px.at (by omega) j; omega), Lib.hid (fun j _ => px.at (by omega) j), hnx1⟩
  case round =>
    obtain ⟨q, os, rfl, hq, hown, hol, HV, HZ, HY, hnx⟩ := hrel
    obtain ⟨wo, rfl⟩ : ∃ wo : World, wo = wr := ⟨_, rfl⟩
    by_cases hlq : q < ys.length
    · obtain ⟨b', off', rfl, hbw', hc'⟩ := hy.2 (by omega)
      have HCQ := Lib.hid (hc' q hlq)
      have y1 := py.at (by omega) q
      clear hc'
      generalize gy : ys.getD q 0 = y at HCQ y1
      have GY := Lib.hid gy
      clear gy
      obtain ⟨y0, y1⟩ := y1
      go_wp2_with fail
      go_loopw [9] (fun sv wr => ∃ (os : List Int), wr.ownsRow w.heap.size 3 1 sv os.length (os.map (Value.int .i64)) ∧ os.length ≤ xs.length + q + 1 ∧
          Hid (pv 10000 os = pv 10000 xs + k * pv 10000 (ys.take q)) ∧ Hid (∀ j, -1000000000 ≤ os.getD j 0 ∧ os.getD j 0 ≤ 1000000000) ∧ Hid (∀ j, q ≤ j → 0 ≤ os.getD j 0 ∧ os.getD j 0 < 10000) ∧ Below w.heap.size w wr) (fun s _ => q + 1 - lenOf s)
      case atStart => exact ⟨os, hown, by omega, HV, HZ, HY, hnx⟩
      case round =>
        clear hown hol HV HZ HY hnx
        obtain ⟨os, hown, hol, HV, HZ, HY, hnx⟩ := hrel
        obtain ⟨wi, rfl⟩ : ∃ wi : World, wi = wr := ⟨_, rfl⟩
        obtain ⟨Av, cv, rfl, hcv, hrd, hpl, hAB, hAn⟩ := Rd.of_own_any hown (by omega)
        by_cases hle : os.length ≤ q
        · clear hrd hAB hAn
          go_wp2_with (at_builtin; refine list_append_rd rfl _ _ 62 rfl w.heap.size 3 i0 (.int .i64 0) 8 Tryz.underlying62 hi hz0 hz1 hz2 rfl _ _ _ rfl (hown.alloc _) .i64 (some ⟨wi.heap.size, 0, none⟩) 1 1 [0] rfl (Rd.lit1 wi 3 .i64 _) rfl (fun e => by cases e) (by unfold maxLen; omega) (by omega) (by have := hnx.size; simp; omega) ?_; intro s2 w2 hown2 hgrow2; refine Hid.out ?_)
          refine Lib.hid ?_
          have hb2 : Below w.heap.size w w2 := (hnx.alloc hnx.size _).grown hgrow2 (by have := hnx.size; simp; omega) (fun j e => (hown.lt j e).1)
          obtain ⟨g2, c2, rfl, _⟩ := own_some hown2 (by omega)
          clear hgrow2 hown hnx
          go_wp2_with fail
          go_roundw
          case rel => exact ⟨os ++ [0], by simpa using hown2, by simp; omega, Lib.hid ((pv_zero_end os).trans HV.out), Lib.hid (fun j => by rw [getD_zero_end]; exact HZ.out j), Lib.hid (fun j hj => by rw [getD_zero_end]; exact HY.out j hj), hb2⟩
          case measure => simp [lenOf]; omega
        · have hle' : ¬ (os.length : Int) ≤ (q : Int) := by omega
          obtain ⟨g, cap, e1, hg⟩ := own_some hown (by omega)
          cases e1
          have c1 := (hnx.cell (p := ⟨b', off' + q, none⟩) hbw').trans HCQ.out
          have c3 := own_at hown rfl rfl q (by omega)
          have f3 := hown.frozenAt q
          have o1 := HY.out q (Nat.le_refl _)
          generalize go : os.getD q 0 = o at c3 o1
          have GO := Lib.hid go
          clear go
          obtain ⟨o0, o1⟩ := o1
          obtain ⟨m0, m1⟩ := mul_small k0 k1 y0 (show y ≤ 9999 by omega)
          have HV2 := Lib.hid (join_add (by omega) HV.out GO.out GY.out)
          have HZ2 := Lib.hid (show ∀ j, -1000000000 ≤ (os.set q (o + k * y)).getD j 0 ∧ (os.set q (o + k * y)).getD j 0 ≤ 1000000000 from fun j => by
            rcases getD_set_any' os q j (o + k * y) with h | ⟨_, h⟩
            · rw [h]; exact HZ.out j
            · rw [h]; constructor <;> omega)
          have HY2 := Lib.hid (show ∀ j, q + 1 ≤ j → 0 ≤ (os.set q (o + k * y)).getD j 0 ∧ (os.set q (o + k * y)).getD j 0 < 10000 from fun j hj => by
            rw [getD_set_other (by omega)]; exact HY.out j (by omega))
          have HO2 := Lib.hid (hown.stored q (.int .i64 (o + k * y))).1
          have HB2 := Lib.hid (hnx.setCell (p := ⟨g, q, none⟩) hg (.int .i64 (o + k * y)))
          have hql : q < os.length := by omega
          clear HV HZ HY hown hrd hAB hAn hnx GO GY
          go_wp2_with fail
          go_region
          all_goals
            go_wp2_with fail
            go_roundw
            case rel => exact ⟨q + 1, os.set q (o + k * y), rfl, by omega, by rw [List.map_set, List.length_set]; exact HO2.out, by simp; omega, HV2, HZ2, HY2, HB2.out.drew⟩
            case measure => simp [intOf]; omega
    · obtain rfl : q = ys.length := by omega
      rw [List.take_length] at HV
      obtain ⟨Av, cv, rfl, hcv, hrd, hpl, hAB, hAn⟩ := Rd.of_own_any hown (by omega)
      have hC := Lib.hid (carry_any Av cv os wo hrd (by omega) (fun j => by have := HZ.out j; omega) (by rw [HV.out]; exact hV))
      rw [HV.out] at hC
      clear HV HZ HY hown hrd hAB hAn
      go_wp2_with fail
      refine hC.out.mono ?_
      rintro e w' ⟨v, rfl, hM, hb⟩
      go_wp2
      go_ret
      exact ⟨_, rfl, hM, hnx.trans (hb.mono hnx.size)⟩

/-- The reference's joined on magnitudes. -/
theorem joined_n (v v' : Value) (x y k : Int) (w : World) (hx : MgI w v x) (hy : MgI w v' y) (bx : x < 10000 ^ 400000) (bY : y < 10000 ^ 400000) (k0 : -9999 ≤ k) (k1 : k ≤ 9999) (hV : 0 ≤ x + k * y) :
    Calls Tryz.prog 45 #[v, v', .int .i64 k, .int .i64 0] w fun e w' => ∃ u, e = .returned u ∧ MgI w' u (x + k * y) ∧ Below w.heap.size w w' := by
  obtain ⟨a, n, c, xs, rfl, rfl, hc, hr, hp, ht, rfl, hA⟩ := hx
  obtain ⟨a', n', c', ys, rfl, rfl, hc', hr', hp', ht', rfl, _⟩ := hy
  exact joined_any a a' c c' xs ys k w hr hr' (ht.len_le (by decide) hp bx) (ht'.len_le (by decide) hp' bY) hp hp' hA k0 k1 hV

end Go.Proofs.YtpjknkembghjcaaGreatDoor

/- integer.divide by a divisor of more than one piece: the walk. -/
import Derived.Test.YtpjknkembghjcaaGreatDoorDivide2
import Derived.Test.YtpjknkembghjcaaGreatDoorDivide2w
import Derived.Test.YtpjknkembghjcaaGreatDoorSmall
import Derived.Test.YtpjknkembghjcaaGreatDoorLong
import Derived.Test.YtpjknkembghjcaaGreatDoorAppend
import Derived.Deep.DeepCutAuto
import Derived.Deep.RegionLaw
import Derived.Deep.RegionHeld3
namespace Go.Proofs.YtpjknkembghjcaaGreatDoor
open Go.RowKit Mag

set_option linter.unusedSimpArgs false in
set_option maxHeartbeats 4000000 in
set_option maxRecDepth 100000 in
theorem divide_long_at (A A' : Option Addr) (ca cb : Nat) (xs ys : List Int) (w : World) (hx : Rd w .u64 A xs) (hy : Rd w .u64 A' ys) (hlx : xs.length ≤ 900000) (hly : ys.length ≤ 900000) (hp : Pcs 1000000000 xs) (hp' : Pcs 1000000000 ys) (ht : Trm xs) (ht' : Trm ys)
    (hca : xs.length ≤ ca) (hcb : ys.length ≤ cb) (h2 : 2 ≤ ys.length) (hle : pv 1000000000 ys ≤ pv 1000000000 xs) :
    Calls Tryz.prog 37 #[.slice A xs.length ca, .slice A' ys.length cb] w fun e w' => ∃ q r, e = .returned (.tuple #[q, r]) ∧ Mg w' q (pv 1000000000 xs / pv 1000000000 ys) ∧ Mg w' r (pv 1000000000 xs % pv 1000000000 ys) ∧ Below w.heap.size w w' := by
  obtain ⟨i0, hi, hz0, hz1, hz2⟩ := info_parts info_u64
  have hb : Below w.heap.size w ((w.alloc (.cells #[.slice A' ys.length cb] 49)).alloc (.cells #[.slice none 0 0] 49)) := ((Below.refl _ _).alloc (Nat.le_refl _) _).alloc (by simp) _
  have hO : 0 ≤ cmpI (pv 1000000000 xs) (pv 1000000000 ys) := by
    rcases Int.lt_or_eq_of_le hle with h | h
    · rw [cmpI_gt h]; omega
    · rw [cmpI_eq h.symm]; omega
  have HX := Lib.hid (show Mg _ (.slice A xs.length ca) (pv 1000000000 xs) from ⟨A, _, ca, xs, rfl, rfl, hca, hx.below (Nat.le_refl _) hb, hp, ht, rfl⟩)
  have HY := Lib.hid (show Mg _ (.slice A' ys.length cb) (pv 1000000000 ys) from ⟨A', _, cb, ys, rfl, rfl, hcb, hy.below (Nat.le_refl _) hb, hp', ht', rfl⟩)
  have hl1 : ((ys.length : Int) == 1) = false := beq_eq_false_iff_ne.2 (by omega)
  obtain ⟨b', off', rfl, hbw', hcb'⟩ := hy.2 (by omega)
  have ct := hcb' (ys.length - 1) (by omega)
  have t1 := hp'.at (by omega) (ys.length - 1)
  have t2 := ht'.getD (by omega)
  have HT := Lib.hid (top_le (by omega) hp' (by omega))
  generalize ys.getD (ys.length - 1) 0 = t at ct t1 t2 HT
  obtain ⟨t0, t1⟩ := t1
  have t3 : 1 ≤ t := by omega
  have f1 : 1 ≤ 1000000000 / (t + 1) := by rw [Int.le_ediv_iff_mul_le (by omega)]; omega
  have f2 : 1000000000 / (t + 1) < 1000000000 := Int.ediv_lt_of_lt_mul (by omega) (by omega)
  clear t2 hcb'
  go_enter Tryz.func37, Tryz.ntmps37
  go_wp2_with (go_at_call 53; refine (order_mg _ _ _ _ _ HX.out HY.out).mono ?_; rintro e w' ⟨rfl, k, rfl⟩; refine Hid.out ?_)
  refine Lib.hid ?_
  have hb0 := below_drewN hb k
  have bB : Boxed (((w.alloc (.cells #[.slice (some ⟨b', off', none⟩) ys.length cb] 49)).alloc (.cells #[.slice none 0 0] 49)).drewN k) w.heap.size 49 (.slice (some ⟨b', off', none⟩) ys.length cb) := (Boxed.new w _ _).alloc _
  have bQ : Boxed (((w.alloc (.cells #[.slice (some ⟨b', off', none⟩) ys.length cb] 49)).alloc (.cells #[.slice none 0 0] 49)).drewN k) (w.heap.size + 1) 49 (.slice none 0 0) := by
    have := Boxed.new (w.alloc (.cells #[.slice (some ⟨b', off', none⟩) ys.length cb] 49)) 49 (.slice none 0 0)
    rwa [World.size_alloc] at this
  have hs0 : (((w.alloc (.cells #[.slice (some ⟨b', off', none⟩) ys.length cb] 49)).alloc (.cells #[.slice none 0 0] 49)).drewN k).heap.size = w.heap.size + 2 := by simp
  have HX0 := Lib.hid (HX.out.drewN k)
  have HY0 := Lib.hid (HY.out.drewN k)
  clear HX HY hb
  generalize (((w.alloc (.cells #[.slice (some ⟨b', off', none⟩) ys.length cb] 49)).alloc (.cells #[.slice none 0 0] 49)).drewN k) = W0 at *
  have HS0 := Lib.hid hs0
  clear hs0
  have cB := bB.cell
  have fB := bB.frozen
  have ct0 := (hb0.cell (p := ⟨b', off' + (ys.length - 1), none⟩) hbw').trans ct
  have l1 : w.heap.size < W0.heap.size := bB.lt
  go_upto_region 13 with (fail)
  generalize 1000000000 / (t + 1) = f at *
  go_cut [0] (fun s0 wx => ∃ vb, MgN (w.heap.size + 2) wx s0 (pv 1000000000 xs * f) ∧ Boxed wx w.heap.size 49 vb ∧ MgN (w.heap.size + 2) wx vb (pv 1000000000 ys * f) ∧ Boxed wx (w.heap.size + 1) 49 (.slice none 0 0) ∧ Below w.heap.size w wx)
  case first =>
    have bX : pv 1000000000 xs < LIM := lim_of_pow (by omega) (pv_lt (by omega) hp)
    have bY : pv 1000000000 ys < LIM := lim_of_pow (by omega) (pv_lt (by omega) hp')
    have hX := Lib.hid HX0.out.drew
    have hY := Lib.hid HY0.out.drew
    have f0 : 0 ≤ f := by omega
    have bB' : Boxed W0.drew w.heap.size 49 (.slice (some ⟨b', off', none⟩) ys.length cb) := bB
    go_region_with (first
      | (go_at_call 65; (with_reducible refine (small_mg (.slice A xs.length ca) (pv 1000000000 xs) f _ (by first | exact hX.out | exact hX.out.below (Nat.le_refl _) hB1) bX f0 f2).mono ?_); rintro e wA ⟨uA, rfl, hA, hA1⟩; have HA := Lib.hid hA; clear hA; first | (have bBA := boxed_under bB' hA1 l1; have cBA := bBA.cell; have fBA := bBA.frozen) | (have bBA := boxed_under bBB hA1 bBB.lt; have cBA := bBA.cell; have fBA := bBA.frozen))
      | (go_at_call 65; (with_reducible refine (small_mg (.slice (some ⟨b', off', none⟩) ys.length cb) (pv 1000000000 ys) f _ (by first | exact hY.out | exact hY.out.below (Nat.le_refl _) hA1) bY f0 f2).mono ?_); rintro e wB ⟨uB, rfl, hB, hB1⟩; have HB := Lib.hid hB; obtain ⟨ab, nb, kb, zb, rfl, hBr⟩ := hB; clear hBr; first | (have bBB := boxed_under bB' hB1 l1; have cBB := bBB.cell; have fBB := bBB.frozen) | (have bBB := boxed_under bBA hB1 bBA.lt; have cBB := bBB.cell; have fBB := bBB.frozen)))
    all_goals
      go_wp2_with fail
      go_meet
      have hl : W0.heap.size ≤ wA.heap.size := hA1.size
      have q1 : Boxed wB (w.heap.size + 1) 49 (.slice none 0 0) := boxed_under (boxed_under (show Boxed W0.drew _ _ _ from bQ) hA1 bQ.lt) hB1 (Nat.lt_of_lt_of_le bQ.lt hl)
      exact ⟨_, ((HA.out.below (Nat.le_refl _) hB1).store l1 _).mono (by have := HS0.out; show w.heap.size + 2 ≤ W0.heap.size; omega), bBB.set _, (HB.out.store (Nat.lt_of_lt_of_le l1 hl) _).mono (by have := HS0.out; omega), q1.other (by omega) _,
        (((hb0.drew).trans (hA1.mono (Nat.le_of_lt l1))).trans (hB1.mono (Nat.le_of_lt (Nat.lt_of_lt_of_le l1 hl)))).setCell (p := ⟨w.heap.size, 0, none⟩) (Nat.le_refl _) _⟩
  case rest =>
    obtain ⟨vb, hva, bBc, hvb, bQc, hbc⟩ := hcut
    clear HX0 HY0 cB fB ct0 bB bQ hb0 hx
    have HVA := Lib.hid hva.mg
    have HVB := Lib.hid hvb.mg
    obtain ⟨a1, n1, c1, zs, rfl, hz1x, hz2', hz3, hz4, hz5, hz6, hz8, hz9⟩ := hva
    obtain ⟨a2, n2, c2, us, rfl, hu1, hu2, hu3, hu4, hu5, hu6, hu8, hu9⟩ := hvb
    have cB := bBc.cell
    have cQ := bQc.cell
    have fQ := bQc.frozen
    have hY0 : 0 < pv 1000000000 ys := ht'.pos (by omega) hp' (by omega)
    have hY1 : 0 < pv 1000000000 us := by rw [hu6]; exact Int.mul_pos hY0 (by omega)
    have hum : 0 < us.length := by
      rcases Nat.eq_zero_or_pos us.length with h | h
      · rw [List.length_eq_zero_iff.1 h] at hY1; simp [pv] at hY1
      · exact h
    have bX2 : pv 1000000000 zs < LIM := by
      rw [hz6]
      have h1 := pv_lt (show (0 : Int) < 1000000000 by omega) hp
      refine lim_of_pow (k := xs.length + 1) (by omega) ?_
      rw [Int.pow_succ]
      exact mul_lt_both h1 f2 (pv_nonneg (by omega) hp) (by omega)
    have bY2 : pv 1000000000 us < LIM := by
      rw [hu6]
      have h1 := pv_lt (show (0 : Int) < 1000000000 by omega) hp'
      refine lim_of_pow (k := ys.length + 1) (by omega) ?_
      rw [Int.pow_succ]
      exact mul_lt_both h1 f2 (pv_nonneg (by omega) hp') (by omega)
    have lz := len_of_lim hz4 hz5 bX2
    have lu := len_of_lim hu4 hu5 bY2
    have HZ6 := Lib.hid hz6
    have HU6 := Lib.hid hu6
    subst hz1x hu1
    clear hz6 hu6 bX2 bY2 HT
    obtain ⟨b2, o2, rfl, hbw2, hcu⟩ := hu3.2 hum
    have hb20 : w.heap.size + 2 ≤ b2 := hu8 _ rfl
    clear hu8 hu9 hz9
    have cu := hcu (us.length - 1) (by omega)
    have tu1 := hu4.at (by omega) (us.length - 1)
    have tu2 := hu5.getD hum
    have HTU := Lib.hid (top_le (by omega) hu4 hum)
    generalize us.getD (us.length - 1) 0 = tu at cu tu1 tu2 HTU
    obtain ⟨tu0, tu1⟩ := tu1
    have tu3 : 1 ≤ tu := by omega
    clear tu2 hcu
    go_wp2_with (at_make; refine wpList_make_full _ rfl _ _ 49 rfl (w.heap.size + 2) 56 i0 (.int .u64 0) 1 Tryz.underlying49 hi hz0 hz1 _ _ _ _ zs.length rfl rfl rfl rfl (by rw [hz2]; omega) (by unfold maxLen; omega) (by have := bQc.lt; omega) ?_; intro w1 hown1 hgrow1; refine Hid.out ?_)
    refine Lib.hid ?_
    have hbx : Below (w.heap.size + 2) wc w1 := (Below.refl _ _).grown hgrow1 (by have := bQc.lt; omega) (fun j e => by cases e)
    have hb1 : Below wc.heap.size wc w1 := (Below.refl _ _).grown hgrow1 (Nat.le_refl _) (fun j e => by cases e)
    have bB1 := boxed_under bBc hb1 bBc.lt
    have bQ1 := boxed_under bQc hb1 bQc.lt
    have hz31 := hz3.below (Nat.le_refl _) hb1
    have HVB1 := Lib.hid (HVB.out.below (Nat.le_refl _) hb1)
    have cu1 := (hb1.cell (p := ⟨b2, o2 + (us.length - 1), none⟩) hbw2).trans cu
    have hbc1 := hbc.trans (hb1.mono (Nat.le_of_lt bBc.lt))
    have hg2 : w.heap.size + 2 ≤ wc.heap.size := by have := hb20; omega
    have hgw : wc.heap.size < w1.heap.size := (hown1.lt wc.heap.size (by simp [Value.ownBlock])).2
    have hrow1 : w1.ownsRow (w.heap.size + 2) 56 1 (.slice (some ⟨wc.heap.size, 0, none⟩) zs.length zs.length) zs.length ((List.replicate zs.length (0 : Int)).map (Value.int .u64)) := by
      simpa [toList_madeCells_one, Value.cells] using hown1
    have hza : ∀ b o, a1 = some ⟨b, o, none⟩ → 0 < zs.length → b < wc.heap.size := fun b o e h0 => by
      obtain ⟨b', o', e', hb', _⟩ := hz3.2 h0
      rw [e] at e'
      cases e'
      exact hb'
    have hur1 := Lib.hid (hu3.below (Nat.le_refl _) hb1)
    clear hown1 hgrow1 hbx hz3 HVB HVA HVB1 bBc bQc hbc cu cB cQ fQ
    generalize hg : wc.heap.size = g at *
    clear hg
    have cB := bB1.cell
    have cQ := bQ1.cell
    have fQ := bQ1.frozen
    have n1 : b2 ≠ w.heap.size + 1 := by omega
    go_wp2
    have bB2 := bB1.other (show w.heap.size ≠ w.heap.size + 1 by omega) (.slice (some ⟨g, 0, none⟩) zs.length zs.length)
    have bQ2 := bQ1.set (.slice (some ⟨g, 0, none⟩) zs.length zs.length)
    have hrow2 := ownsRow_setCell_below hrow1 (show (⟨w.heap.size + 1, 0, none⟩ : Addr).block < w.heap.size + 2 from Nat.lt_succ_self _) (.slice (some ⟨g, 0, none⟩) zs.length zs.length)
    have hzr2 := Lib.hid (hz31.store (w.heap.size + 1) (fun ad e => by have := hz8 ad e; omega) (.slice (some ⟨g, 0, none⟩) zs.length zs.length))
    have hur2 := Lib.hid (hur1.out.store (w.heap.size + 1) (fun ad e => by cases e; exact n1) (.slice (some ⟨g, 0, none⟩) zs.length zs.length))
    have hbc2 := hbc1.setCell (p := ⟨w.heap.size + 1, 0, none⟩) (by show w.heap.size ≤ w.heap.size + 1; omega) (.slice (some ⟨g, 0, none⟩) zs.length zs.length)
    have hs2 : g < (w1.setCell ⟨w.heap.size + 1, 0, none⟩ (.slice (some ⟨g, 0, none⟩) zs.length zs.length)).heap.size := by simpa using hgw
    clear hur1 hz31 hrow1 bB1 bQ1 cB cQ fQ cu1 hbc1 hb1
    generalize w1.setCell ⟨w.heap.size + 1, 0, none⟩ (.slice (some ⟨g, 0, none⟩) zs.length zs.length) = W2 at *
    have hY2 := Lib.hid hY1
    have MB := Lib.hid (show ∀ W', Below g W2 W' → Mg W' (.slice (some ⟨b2, o2, none⟩) us.length c2) (pv 1000000000 us) from fun W' h => ⟨_, _, c2, us, rfl, rfl, hu2, hur2.out.under (fun b o e _ => by cases e; exact hbw2) h, hu4, hu5, rfl⟩)
    have ZB := Lib.hid (show ∀ W', Below g W2 W' → Rd W' .u64 a1 zs from fun W' h => hzr2.out.under hza h)
    have BB := Lib.hid (show ∀ W', Below g W2 W' → Boxed W' w.heap.size 49 (.slice (some ⟨b2, o2, none⟩) us.length c2) from fun W' h => boxed_under bB2 h (by omega))
    have QB := Lib.hid (show ∀ W', Below g W2 W' → Boxed W' (w.heap.size + 1) 49 (.slice (some ⟨g, 0, none⟩) zs.length zs.length) from fun W' h => boxed_under bQ2 h (by omega))
    clear hur2 hzr2 bB2 bQ2
    generalize hYd : pv 1000000000 us = Y at *
    have HYd := Lib.hid hYd
    have HU6' := HU6
    clear hYd
    have bYL : Y * 1000000000 < LIM := by
      rw [HU6.out]
      have h1 := pv_lt (show (0 : Int) < 1000000000 by omega) hp'
      refine lim_of_pow (k := ys.length + 1 + 1) (by omega) ?_
      rw [Int.pow_succ, Int.pow_succ]
      exact Int.mul_lt_mul_of_pos_right (mul_lt_both h1 f2 (pv_nonneg (by omega) hp') (by omega)) (by omega)
    have BYL := Lib.hid bYL
    clear bYL
    go_loopw [5, 11] (fun r i wr => ∃ (k : Nat) (m : Int) (qs : List Int) (R : Int), k ≤ zs.length ∧ i = .int .i64 m ∧ Hid (m = (k : Int) - 1) ∧ Hid (MgN (g + 1) wr r R) ∧ 0 ≤ R ∧ R < Y ∧
        wr.ownsRow (w.heap.size + 2) 56 1 (.slice (some ⟨g, 0, none⟩) zs.length zs.length) zs.length (qs.map (Value.int .u64)) ∧ Hid (qs.length = zs.length) ∧ Hid (Pcs 1000000000 qs) ∧
        Hid (pv 1000000000 (qs.drop k) * Y + R = pv 1000000000 (zs.drop k)) ∧ Hid (∀ j, j < k → qs.getD j 0 = 0) ∧ Below g W2 wr ∧ Below w.heap.size w wr ∧ g < wr.heap.size) (fun _ i _ => (intOf i + 1).toNat)
    case atStart => exact ⟨zs.length, _, List.replicate zs.length 0, 0, Nat.le_refl _, rfl, Lib.hid rfl, Lib.hid (MgN.nil _ _), Int.le_refl _, hY2.out, hrow2, Lib.hid (by simp), Lib.hid (Pcs.zeros (by omega) _), Lib.hid (by rw [List.drop_length, show List.replicate zs.length (0 : Int) = List.replicate zs.length 0 from rfl]; simp [pv]), Lib.hid (fun j _ => getD_reps _ j), Below.refl _ _, hbc2, hs2⟩
    case round =>
      obtain ⟨k, m, qs, R, hk, rfl, hm, hR, hR0, hR1, hrow, HQL, HQP, HV, HZ0, hG, hW, hgs⟩ := hrel
      obtain ⟨wo, rfl⟩ : ∃ wo : World, wo = wr := ⟨_, rfl⟩
      by_cases h0 : 0 < k
      · obtain ⟨j, rfl⟩ : ∃ j, k = j + 1 := ⟨k - 1, by omega⟩
        obtain rfl : m = (j : Int) := by have := hm.out; omega
        clear hm
        have hzj := ZB.out _ hG
        obtain ⟨a3, n3, c3, rs, rfl, hr1, hr2, hr3, hr4, hr5, hr6, hr8, hr9⟩ := hR.out
        obtain ⟨b1, o1, rfl, hbz, hcz⟩ := hzj.2 (by omega)
        have cz := hcz j (by omega)
        have z1 := hz4.at (by omega) j
        generalize gz : zs.getD j 0 = z at cz z1
        have GZ := Lib.hid gz
        clear gz hcz hzj
        obtain ⟨z0, z1⟩ := z1
        have j1 : j < zs.length := by omega
        have hrA := hr3.alloc (.cells #[.int .u64 z] 56)
        have HR3 := Lib.hid hr3
        have HR6 := Lib.hid hr6
        have hlr : rs.length ≤ 1000000 := len_of_lim hr4 hr5 (by rw [hr6]; exact Int.lt_trans (show R < Y * 1000000000 by omega) BYL.out)
        subst hr1
        clear hr6 hr3
        go_wp2_with (at_builtin; refine list_append_rd rfl _ _ 49 rfl (g + 1) 56 i0 (.int .u64 0) 8 Tryz.underlying49 hi hz0 hz1 hz2 rfl _ _ _ rfl (own_lit1 wo (g + 1) _ _ hgs) .u64 a3 rs.length c3 rs rfl hrA rfl hr9 (by unfold maxLen; omega) (by omega) (by simp; omega) ?_; intro v4 w4 hown4 hgrow4; refine Hid.out ?_)
        refine Lib.hid ?_
        have hgrow5 : (wo.alloc (.cells #[.int .u64 z] 56)).grownBy w4 (some wo.heap.size) := hgrow4
        have hown5 : w4.ownsRow (g + 1) 56 1 v4 (1 + rs.length) ((z :: rs).map (Value.int .u64)) := by simpa using hown4
        clear hown4 hgrow4 hrA
        obtain ⟨a4, c4, rfl, hc4, hq4, hl4, hb4, hn4⟩ := Rd.of_own_any hown5 (by omega)
        have hG4 : Below g W2 w4 := (hG.alloc (by omega) (.cells #[.int .u64 z] 56)).grown hgrow5 (by simp; omega) (fun j e => by cases e; omega)
        have hW4 : Below w.heap.size w w4 := (hW.alloc (by have := hW.size; omega) (.cells #[.int .u64 z] 56)).grown hgrow5 (by simp; omega) (fun j e => by cases e; omega)
        have hrow4 := (hrow.alloc (.cells #[.int .u64 z] 56)).kept hgrow5 (.inr (by simp [Value.ownBlock]; omega))
        have hs4 : g < w4.heap.size := by have := hgrow5.size; simp at this; omega
        clear hgrow5 hown5 hrow
        have HL4 := Lib.hid hl4
        have HQ4 := Lib.hid hq4
        clear hl4 hq4
        go_wp2_with fail
        refine (trim_det a4 _ c4 (z :: rs) w4 HQ4.out HL4.out hc4).mono ?_
        rintro e w' ⟨rfl, rfl⟩
        have HP4 := Lib.hid (Pcs.cons ⟨z0, z1⟩ hr4)
        have HR4 := Lib.hid (MgN.trimmed (B := g + 1) HQ4.out HP4.out (by rw [HL4.out]; exact hc4) (show pv 1000000000 (z :: rs) = z + 1000000000 * R by rw [pv_cons, HR6.out]) hb4 hn4)
        have cB4 := (BB.out _ hG4).cell
        go_wp2_with fail
        refine (order_mg _ _ _ _ w' HR4.out.mg (MB.out _ hG4)).mono ?_
        rintro e w5 ⟨rfl, nn, rfl⟩
        by_cases hlt : z + 1000000000 * R < Y
        · have hqj : j < qs.length := by rw [HQL.out]; exact j1
          have hz0j := HZ0.out j (by omega)
          have hv4 := long_skip (B := 1000000000) (Y := Y) (R := R) (qs := qs) (k := j) j1 hqj HV.out hz0j
          rw [GZ.out] at hv4
          have HV4 := Lib.hid hv4
          clear hv4 hz0j hqj
          rw [cmpI_lt hlt]
          go_wp2
          go_roundw
          case rel => exact ⟨j, _, qs, z + 1000000000 * R, by omega, rfl, Lib.hid rfl, Lib.hid (HR4.out.drewN nn), by omega, hlt, hrow4, HQL, HQP, HV4, Lib.hid (fun i hi => HZ0.out i (by omega)), below_drewN hG4 nn, below_drewN hW4 nn, hs4⟩
          case measure => simp [intOf]
        · have hc0 : 0 ≤ cmpI (z + 1000000000 * R) Y := by
            rcases Int.lt_or_eq_of_le (Int.not_lt.1 hlt) with h | h
            · rw [cmpI_gt h]; omega
            · rw [cmpI_eq h.symm]; omega
          obtain ⟨a5, n5, c5, ts, e5, ht1, ht2, ht3, ht4, ht5, ht6, ht8, ht9⟩ := HR4.out
          cases e5
          generalize trimN (z :: rs) = nt at *
          have hr1B : z + 1000000000 * R < 1000000000 * Y := by omega
          have ln1 : us.length ≤ nt := by
            rcases Nat.lt_or_ge ts.length us.length with h | h
            · have := lt_of_len (show (0 : Int) < 1000000000 by omega) ht4 hu4 hu5 h
              rw [ht6, HYd.out] at this
              omega
            · omega
          have ln2 : nt ≤ us.length + 1 := by
            rw [← ht1]
            refine ht5.len_le (by omega) ht4 ?_
            rw [ht6, Int.pow_succ]
            have := pv_lt (show (0 : Int) < 1000000000 by omega) hu4
            rw [HYd.out] at this
            have h3 : Y * 1000000000 ≤ 1000000000 ^ us.length * 1000000000 := Int.mul_le_mul_of_nonneg_right (by omega) (by omega)
            omega
          obtain ⟨b5, o5, rfl, hb5, hc5⟩ := ht3.2 (by omega)
          have hg5 : g + 1 ≤ b5 := ht8 _ rfl
          have htu0 : 0 < tu := by omega
          have hku : us.length - 1 ≤ ts.length := by omega
          have HG1 := Lib.hid (guess_le (B := 1000000000) (Y := Y) (t := tu) (rs := ts) (k := us.length - 1) (by decide) ht4 hku htu0 HTU.out)
          clear htu0 hku
          rw [ht6] at HG1
          have HT6 := Lib.hid ht6
          clear ht6
          have cT := hc5 (nt - 1) (by omega)
          have t1' := ht4.at (by omega) (nt - 1)
          have HD1 := Lib.hid (drop_last 1000000000 (rs := ts) (by omega))
          have HD2 := Lib.hid (fun h : 1 < ts.length => drop_last2 1000000000 (rs := ts) h)
          have HN1 := Lib.hid ht1
          rw [ht1] at HD1 HD2
          generalize gdt : ts.getD (nt - 1) 0 = dt at *
          have cN := hc5 (nt - 2) (by omega)
          have n1' := ht4.at (by omega) (nt - 2)
          generalize gdn : ts.getD (nt - 2) 0 = dn at *
          obtain ⟨dt0, dt1⟩ := t1'
          obtain ⟨dn0, dn1⟩ := n1'
          have hnt0 : 0 < nt := by omega
          clear gdt gdn ht1 hc5
          have cB5 := (BB.out _ hG4).cell
          go_upto_if 103 with (fail)
          go_cut [12] (fun s12 wx => ∃ d0 : Int, s12 = .int .u64 d0 ∧ 0 ≤ d0 ∧ d0 ≤ 999999999999999999 ∧ Hid ((z + 1000000000 * R) / Y ≤ d0 / tu) ∧ wx = w'.drewN nn)
          case first =>
            by_cases hnt : nt = us.length
            · have hlt' : ¬ us.length < nt := by omega
              have HE := Lib.hid hnt
              clear hnt
              go_wp2_with fail
              go_meet
              have hd9 : dt ≤ 999999999999999999 := by omega
              have hgg := Lib.hid (show (z + 1000000000 * R) / Y ≤ dt / tu by have h1 := HG1.out; rw [← HE.out, HD1.out] at h1; exact h1)
              refine ⟨dt, ?_, dt0, hd9, hgg, ?_⟩
              · rfl
              · rfl
            · have hlt' : us.length < nt := by omega
              have cN' : w'.cell? ⟨b5, o5 + (nt - 2), none⟩ = some (.int .u64 dn) := cN
              go_wp2_with fail
              go_meet
              have hd8 : 0 ≤ dt * 1000000000 + dn := by omega
              have hd9 : dt * 1000000000 + dn ≤ 999999999999999999 := by omega
              have hgg := Lib.hid (show (z + 1000000000 * R) / Y ≤ (dt * 1000000000 + dn) / tu by have h1 := HG1.out; have h2 := HD2.out (by omega); rw [show us.length - 1 = nt - 2 by omega, h2] at h1; exact h1)
              refine ⟨dt * 1000000000 + dn, ?_, hd8, hd9, hgg, ?_⟩
              · rfl
              · rfl
          case rest =>
            obtain ⟨d0, rfl, hd0, hd1, HG2, rfl⟩ := hcut
            have dq0 : 0 ≤ d0 / tu := Int.ediv_nonneg hd0 (by omega)
            have dq1 : d0 / tu ≤ d0 := Int.ediv_le_self _ hd0
            have R0 : 0 ≤ z + 1000000000 * R := by omega
            have qB : (z + 1000000000 * R) / Y ≤ 999999999 := by
              have : (z + 1000000000 * R) / Y < 1000000000 := Int.ediv_lt_of_lt_mul (by omega) (by omega)
              omega
            have QB' := Lib.hid qB
            clear qB
            go_upto_region 24 with (fail)
            go_cut [12] (fun s12 wx => ∃ D : Int, s12 = .int .u64 D ∧ 0 ≤ D ∧ D ≤ 999999999 ∧ Hid ((z + 1000000000 * R) / Y ≤ D) ∧ wx = w'.drewN nn)
            case first =>
              go_wp2_with fail
              all_goals go_meet
              all_goals first
                | exact ⟨_, rfl, by omega, by omega, QB', rfl⟩
                | exact ⟨_, rfl, by omega, by omega, HG2, rfl⟩
            case rest =>
              obtain ⟨D, rfl, hD0, hD1, HD, rfl⟩ := hcut
              go_wp2_with fail
              have hN6 : Rnd w W2 g zs.length qs (w'.drewN nn) := ⟨hrow4, below_drewN hG4 nn, below_drewN hW4 nn, hs4⟩
              have HR6' := Lib.hid (HR4.out.drewN nn)
              have bYL2 : Y < LIM := Int.lt_trans (show Y < Y * 1000000000 by omega) BYL.out
              have YB : ∀ W', Below g W2 W' → Mg W' (.slice (some ⟨b2, o2, none⟩) us.length c2) Y := MB.out
              have MB' := Lib.hid YB
              clear YB MB hrow4 hG4 hW4 hs4 HR4 cB5 cT cN cB4 cz
              refine (small_mg _ Y D _ (MB'.out _ hN6.2.1) bYL2 hD0 (by omega)).mono ?_
              rintro e w6 ⟨u6, rfl, hu6', hb6⟩
              have hN7 := Lib.hid (hN6.below hb6)
              have HU7 := Lib.hid (hu6'.mono (show g + 1 ≤ _ from hN6.2.2.2))
              have HR7 := Lib.hid (HR6'.out.below (Nat.le_refl _) hb6)
              clear hN6 HR6' hu6' hb6 bYL2
              go_wp2_with fail
              go_loopw [12, 13] (fun d p wr => ∃ (D : Int) , d = .int .u64 D ∧ Hid (MgN (g + 1) wr p (Y * D)) ∧ 0 ≤ D ∧ D ≤ 999999999 ∧ Hid ((z + 1000000000 * R) / Y ≤ D) ∧ Hid (Rnd w W2 g zs.length qs wr) ∧
                  Hid (MgN (g + 1) wr (.slice (some ⟨b5, o5, none⟩) nt c4) (z + 1000000000 * R))) (fun d _ _ => (intOf d).toNat)
              case atStart => exact ⟨D, rfl, HU7, hD0, hD1, HD, hN7, HR7⟩
              case round =>
                clear hN7 HR7 HU7 HD hD0 hD1
                obtain ⟨D, rfl, HU7, hD0, hD1, HD, hN7, HR7⟩ := hrel
                obtain ⟨wi, rfl⟩ : ∃ wi : World, wi = wr := ⟨_, rfl⟩
                go_wp2_with fail
                refine (order_mg _ _ _ _ wi HU7.out.mg HR7.out.mg).mono ?_
                rintro e w7 ⟨rfl, n7, rfl⟩
                have hN8 := Lib.hid (hN7.out.drewN n7)
                have HR8 := Lib.hid (HR7.out.drewN n7)
                obtain ⟨a6, n6, c6, ps, rfl, hrest6⟩ := HU7.out
                clear hrest6
                have HU8 := Lib.hid (HU7.out.drewN n7)
                by_cases hgt : z + 1000000000 * R < Y * D
                · have hc1 : 0 < cmpI (Y * D) (z + 1000000000 * R) := by rw [cmpI_gt hgt]; omega
                  have hD2 : (z + 1000000000 * R) / Y ≤ D - 1 := by
                    have : (z + 1000000000 * R) / Y < D := Int.ediv_lt_of_lt_mul (by omega) (by rw [Int.mul_comm D]; exact hgt)
                    omega
                  have hD3 : 1 ≤ D := by have := Int.ediv_nonneg R0 (show 0 ≤ Y by omega); omega
                  have HD2 := Lib.hid hD2
                  have hle6 : Y ≤ Y * D := by
                    have := Int.mul_le_mul_of_nonneg_left hD3 (show 0 ≤ Y by omega)
                    omega
                  have hle6' := Lib.hid hle6
                  clear hD2 hle6
                  generalize cmpI (Y * D) (z + 1000000000 * R) = cc at *
                  have cB8 := (BB.out _ hN8.out.2.1).cell
                  go_wp2_with fail
                  refine (minus_mg _ _ (Y * D) Y _ HU8.out.mg (MB'.out _ hN8.out.2.1) hle6'.out).mono ?_
                  rintro e w8 ⟨u8', rfl, hu8', hb8⟩
                  have hN9 := Lib.hid (hN8.out.below hb8)
                  have HU9 := Lib.hid (show MgN (g + 1) w8 u8' (Y * (D - 1)) by
                    have h := hu8'.mono (show g + 1 ≤ _ from hN8.out.2.2.2)
                    rwa [show Y * (D - 1) = Y * D - Y by rw [Int.mul_sub, Int.mul_one]])
                  have HR9 := Lib.hid (HR8.out.below (Nat.le_refl _) hb8)
                  clear hu8' hb8
                  go_wp2_with fail
                  go_roundw
                  case rel => exact ⟨D - 1, rfl, HU9, by omega, by omega, HD2, hN9, HR9⟩
                  case measure => simp [intOf]; omega
                · have hc1 : ¬ 0 < cmpI (Y * D) (z + 1000000000 * R) := by
                    rcases Int.lt_or_eq_of_le (Int.not_lt.1 hgt) with h | h
                    · rw [cmpI_lt h]; omega
                    · rw [cmpI_eq h]; omega
                  generalize cmpI (Y * D) (z + 1000000000 * R) = cc at *
                  have hle6' := Lib.hid (show Y * D ≤ z + 1000000000 * R by omega)
                  go_wp2_with fail
                  have hDq := digit_eq (R := z + 1000000000 * R) (Y := Y) (d := D) (by omega) HD.out (by rw [Int.mul_comm]; exact hle6'.out)
                  have hRem := Int.emod_def (z + 1000000000 * R) Y
                  have hRm0 := Int.emod_nonneg (z + 1000000000 * R) (show Y ≠ 0 by omega)
                  have hRm1 := Int.emod_lt_of_pos (z + 1000000000 * R) (show 0 < Y by omega)
                  rw [← hDq] at hRem
                  rw [hRem] at hRm0 hRm1
                  have HDq := Lib.hid hDq
                  have cQ8 := (QB.out _ hN7.out.2.1).cell
                  clear hRem hDq
                  have hk0 := (hN7.out.drewN (n7 + 1)).2.1
                  clear cQ8
                  go_region_held3 (fun w' => w'.cell? ⟨w.heap.size + 1, 0, none⟩ = some (.slice (some ⟨g, 0, none⟩) zs.length zs.length)) (exact (QB.out _ (by assumption)).cell) (first
                    | (go_at_call 39; (with_reducible refine (minus_mg (.slice (some ⟨b5, o5, none⟩) nt c4) (.slice a6 n6 c6) (z + 1000000000 * R) (Y * D) _ (HR7.out.drewN (n7 + 1)).mg (HU7.out.drewN (n7 + 1)).mg hle6'.out).mono ?_); rintro e w8 ⟨u8', rfl, hu8', hb8⟩; have hN9 := Lib.hid ((hN7.out.drewN (n7 + 1)).below hb8); have hk9 := hN9.out.2.1; have hk10 := hk9.setCell (p := ⟨g, j, none⟩) (Nat.le_refl _) (.int .u64 D); have HU9 := Lib.hid (hu8'.mono (show g + 1 ≤ _ from hN8.out.2.2.2)); clear hu8' hb8; have q9 := (QB.out _ hN9.out.2.1).cell; have f9 := hN9.out.1.frozenAt j; have c9 := hN9.out.1.cellAt j (by omega); rw [List.getElem?_map, List.getElem?_eq_getElem (by rw [HQL.out]; exact j1)] at c9))
                  all_goals
                    have hN10 := hN9.out.store (show w.heap.size ≤ g by omega) j D
                    have HN10 := Lib.hid hN10
                    have HU10 := Lib.hid (HU9.out.stored (w := w) (j := j) (u := .int .u64 D) (show g < g + 1 by omega) hN9.out.1)
                    have HV10 := Lib.hid (show pv 1000000000 ((qs.set j D).drop j) * Y + (z + 1000000000 * R - Y * D) = pv 1000000000 (zs.drop j) by
                      have hqj : j < qs.length := by rw [HQL.out]; exact j1
                      have h := long_step (B := 1000000000) (Y := Y) (R := R) (d := D) (qs := qs) (k := j) j1 hqj HV.out (by rw [GZ.out]; exact HDq.out)
                      rw [GZ.out, Int.mul_comm D Y] at h
                      exact h)
                    have HP10 := Lib.hid (HQP.out.set j (x := D) ⟨hD0, by omega⟩)
                    clear hN10
                    skip
                    go_wp2_with fail
                    go_roundw
                    case rel => exact ⟨j, _, qs.set j D, z + 1000000000 * R - Y * D, by omega, rfl, Lib.hid rfl, HU10, hRm0, hRm1, HN10.out.1, Lib.hid (by simp [HQL.out]), HP10, HV10, Lib.hid (fun i hi => by rw [getD_set_other (by omega)]; exact HZ0.out i (by omega)), HN10.out.2.1, HN10.out.2.2.1, HN10.out.2.2.2⟩
                    case measure => simp [intOf]
      · obtain rfl : k = 0 := by omega
        obtain rfl : m = -1 := by have := hm.out; omega
        clear hm
        rw [List.drop_zero, List.drop_zero, HZ6.out, HU6'.out] at HV
        have hbL : Below wo.heap.size wo (wo.alloc (.cells #[.int .u64 f] 56)) := (Below.refl _ _).alloc (Nat.le_refl _) _
        have hff : Mg (wo.alloc (.cells #[.int .u64 f] 56)) (.slice (some ⟨wo.heap.size, 0, none⟩) 1 1) f :=
          ⟨_, 1, 1, [f], rfl, rfl, Nat.le_refl _, Rd.lit1 wo 56 .u64 f, Pcs.cons ⟨by omega, f2⟩ Pcs.nil, fun h => by simp; omega, pv_one _ _⟩
        have hRl : R < LIM := Int.lt_trans hR1 (Int.lt_trans (show Y < Y * 1000000000 by omega) BYL.out)
        obtain ⟨e1, e2⟩ := long_end (show 0 < f by omega) hY0 HV.out hR0 (by rw [← HU6'.out]; exact hR1)
        have E1 := Lib.hid e1
        have E2 := Lib.hid e2
        clear e1 e2 HV HZ0
        go_wp2_with fail
        refine (divide_piece _ _ R f _ (hR.out.mg.below (Nat.le_refl _) hbL) hff hRl (by omega) f2).mono ?_
        rintro e wq ⟨q5, r5, rfl, hq5, hr5, hb5⟩
        have hb6 : Below wo.heap.size wo wq := hbL.trans (hb5.mono hbL.size)
        have hG5 := hG.trans (hb6.mono (Nat.le_of_lt hgs))
        have hW5 := hW.trans (hb6.mono hW.size)
        have bQ5 := QB.out _ hG5
        have cQ := bQ5.cell
        have fQ := bQ5.frozen
        have hrow5 := hrow.kept (grownBy_of_below hb6) (.inr (by simp [Value.ownBlock]))
        have hrd := Rd.of_owns hrow5 HQL.out (by omega)
        have HR5 := Lib.hid (show MgN (wo.alloc (.cells #[.int .u64 f] 56)).heap.size wq q5 (pv 1000000000 xs % pv 1000000000 ys) by rw [← E2.out]; exact hq5)
        have hsw : w.heap.size + 2 ≤ (wo.alloc (.cells #[.int .u64 f] 56)).heap.size := by simp; omega
        clear hr5 hq5 hb5 hbL hff hRl hR
        go_wp2_with fail
        refine (trim_det (some ⟨g, 0, none⟩) zs.length zs.length qs _ hrd HQL.out (Nat.le_refl _)).mono ?_
        rintro e w9 ⟨rfl, rfl⟩
        have HQ9 := Lib.hid (Mg.trimmed (cap := zs.length) (hrd.store (w.heap.size + 1) (fun ad e => by cases e; show g ≠ w.heap.size + 1; omega) (.slice (some ⟨g, 0, none⟩) (trimN qs) zs.length)) HQP.out (by have := HQL.out; omega) E1.out)
        have HR9 := Lib.hid (HR5.out.kept (w1 := w9.setCell ⟨w.heap.size + 1, 0, none⟩ (.slice (some ⟨g, 0, none⟩) (trimN qs) zs.length)) (by simp) fun b' h1 h2 => Below.heap_setCell _ _ _ _ (by show b' ≠ w.heap.size + 1; omega))
        have c9 := (bQ5.set (.slice (some ⟨g, 0, none⟩) (trimN qs) zs.length)).cell
        go_wp2_with fail
        refine bodyPost_ret (v := .tuple #[.slice (some ⟨g, 0, none⟩) (trimN qs) zs.length, q5]) (by simp [results, Tryz.results37, go_sem, c9]) rfl ⟨_, _, rfl, HQ9.out, HR9.out.mg, hW5.setCell (p := ⟨w.heap.size + 1, 0, none⟩) (Nat.le_succ _) _⟩

end Go.Proofs.YtpjknkembghjcaaGreatDoor

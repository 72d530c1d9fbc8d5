/- integer.Root. -/
import Derived.Test.YtpjknkembghjcaaGreatDoorDivMod
import Derived.Test.YtpjknkembghjcaaGreatDoorPlus
import Derived.Test.YtpjknkembghjcaaGreatDoorSign
set_option linter.unusedVariables false
set_option linter.unusedSimpArgs false
namespace Go.Proofs.YtpjknkembghjcaaGreatDoor
open Go.RowKit Go.Lib Go.Proofs.YtpjknkembghjcaaGreatDoor.Dec Go.Proofs.YtpjknkembghjcaaGreatDoor.Mag Go.Proofs.YtpjknkembghjcaaGreatDoor.Chunk

theorem mg_unique {w : World} {v : Value} {x y : Int} (hx : Mg w v x) (hy : Mg w v y) : x = y := by
  obtain ⟨a, n, c, xs, rfl, hl, hc, hr, hp, ht, hv⟩ := hx
  obtain ⟨a', n', c', ys, e, hl', hc', hr', hp', ht', hv'⟩ := hy
  cases e
  have : xs = ys := by
    apply List.ext_getElem (by omega)
    intro i h1 h2
    obtain ⟨b, off, ea, hb, hcell⟩ := hr.2 (by omega)
    obtain ⟨b', off', ea', hb', hcell'⟩ := hr'.2 (by omega)
    rw [ea] at ea'
    cases ea'
    have e1 := hcell i h1
    rw [hcell' i h2] at e1
    simp only [Option.some.injEq, Value.int.injEq, true_and] at e1
    rw [List.getD_eq_getElem?_getD, List.getElem?_eq_getElem h2, List.getD_eq_getElem?_getD, List.getElem?_eq_getElem h1] at e1
    exact e1.symm
  rw [← hv, ← hv', this]
open Classical in
/-- The number that a slice of pieces holds. -/
noncomputable def mgVal (w : World) (v : Value) : Nat := if h : ∃ x, Mg w v x then (Classical.choose h).toNat else 0
theorem mgVal_eq {w : World} {v : Value} {x : Int} (h : Mg w v x) : mgVal w v = x.toNat := by
  have he : ∃ x, Mg w v x := ⟨x, h⟩
  rw [mgVal, dif_pos he, mg_unique (Classical.choose_spec he) h]

set_option maxRecDepth 100000 in
theorem field_p (b : Bool) (a : Option Addr) (n c : Nat) (W : World) : (Instr.field 51 (.agg #[.bool b, .slice a n c]) 1).run Tryz.prog W = .ok (.slice a n c) W := by
  first
    | rfl
    | kernel_rfl
    | (go_simp; done)

set_option maxHeartbeats 1000000 in
set_option maxRecDepth 100000 in
theorem root_neg (x : Int) (w : World) (hx : x < 0) :
    Calls Tryz.prog 18 #[.string ⟨(itoa x).toArray⟩] w fun e w' => e = .returned (.tuple #[.string ⟨#[]⟩, .int .i64 3]) ∧ w' = w := by
  have hs := Int.sign_eq_neg_one_of_neg hx
  go_enter Tryz.func18, Tryz.ntmps18
  go_wp2_with (go_at_call 27; refine (sign_n x _).mono ?_; rintro e w' ⟨rfl, rfl⟩; rw [hs])
  go_ret2
  exact ⟨rfl, rfl⟩

set_option maxHeartbeats 1000000 in
set_option maxRecDepth 100000 in
theorem root_zero (w : World) :
    Calls Tryz.prog 18 #[.string ⟨(itoa 0).toArray⟩] w fun e w' => e = .returned (.tuple #[.string ⟨(itoa 0).toArray⟩, .int .i64 0]) ∧ Below w.heap.size w w' := by
  have hz0 : (itoa 0).length ≤ 1000000 := by rw [itoa_zero]; decide
  go_enter Tryz.func18, Tryz.ntmps18
  go_wp2_with (go_at_call 27; refine (sign_n 0 _).mono ?_; rintro e w' ⟨rfl, rfl⟩; refine Hid.out ?_)
  refine Lib.hid ?_
  go_wp2_with (go_at_call 36; refine (open_n 0 _ hz0).mono ?_; rintro e w3 ⟨p, rfl, hp, hb⟩; refine Hid.out ?_)
  refine Lib.hid ?_
  have HP := hp.mg
  obtain ⟨a, n, c, zp, rfl, hrest⟩ := hp.mg
  obtain rfl : n = 0 := by
    rcases Nat.eq_zero_or_pos n with h | h
    · exact h
    · have := (mg_len HP).2 h; simp at this
  clear HP hrest hp
  have hfd := fun b => field_p b a 0 c
  go_wp2
  go_ret2
  exact ⟨by rw [itoa_zero]; rfl, hb⟩

theorem root_exists (n : Nat) : ∃ r : Nat, r * r ≤ n ∧ n < (r + 1) * (r + 1) := by
  induction n with
  | zero => exact ⟨0, by decide, by decide⟩
  | succ n ih =>
    obtain ⟨r, h1, h2⟩ := ih
    by_cases h : n + 1 < (r + 1) * (r + 1)
    · exact ⟨r, by omega, h⟩
    · refine ⟨r + 1, by omega, ?_⟩
      have : (r + 1) * (r + 1) + 2 * (r + 1) + 1 = (r + 1 + 1) * (r + 1 + 1) := by grind
      omega

set_option maxHeartbeats 2000000 in
set_option maxRecDepth 100000 in
theorem root_pos (x r : Int) (w : World) (hx0 : 0 < x) (hx : (itoa x).length ≤ 100000) (hd : ∀ z, 0 < z → DivAt x z) (hr0 : 0 ≤ r) (hr1 : r * r ≤ x) (hr2 : x < (r + 1) * (r + 1)) (htab : TabIs Tryz.prog w "internal/strconv.uint64pow10" .u64 pow10Tab) :
    Calls Tryz.prog 18 #[.string ⟨(itoa x).toArray⟩] w fun e w' => e = .returned (.tuple #[.string ⟨(itoa r).toArray⟩, .int .i64 0]) ∧ Below w.heap.size w w' := by
  obtain ⟨i0, hi, hz0, hz1, hz2⟩ := info_parts info_u64
  have hs := Int.sign_eq_one_of_pos hx0
  have HU := Lib.hid (show ∀ z : Int, 0 < z → z * z ≤ x → x < (z + 1) * (z + 1) → z = r from fun z z0 z1 z2 => Num.root_unique (by omega) hr0 z1 z2 hr1 hr2)
  clear hr0 hr1 hr2
  have hX : (x.natAbs : Int) = x := by omega
  have hlen := itoa_len_le hx
  have HB := Lib.hid (show x < (1000000000 : Int) ^ 11112 by
    have h1 : (10 : Int) ^ 100000 ≤ (10 : Int) ^ (9 * 11112) := pow_mono (by decide) (by decide)
    rw [Int.pow_mul, show (10 : Int) ^ 9 = 1000000000 by decide] at h1
    omega)
  clear hlen
  go_enter Tryz.func18, Tryz.ntmps18
  go_wp2_with (go_at_call 27; refine (sign_n x _).mono ?_; rintro e w' ⟨rfl, rfl⟩; rw [hs]; refine Hid.out ?_)
  refine Lib.hid ?_
  go_wp2_with (go_at_call 36; refine (open_n x _ (by omega)).mono ?_; rintro e w3 ⟨p, rfl, hp, hb⟩; rw [hX] at hp; have HP := Lib.hid hp.mg; refine Hid.out ?_)
  refine Lib.hid ?_
  obtain ⟨a, n, c, zp, rfl, hrest⟩ := HP.out
  have hl1 := (mg_len HP.out)
  obtain ⟨hlz, hcz, hrz, hpz, htz, hvz⟩ := hrest
  have hn : 0 < n := by
    rcases Nat.eq_zero_or_pos n with h | h
    · have := hl1.1 h; omega
    · exact h
  have hnb : n ≤ 11112 := by rw [← hlz]; exact htz.len_le (by decide) hpz (by rw [hvz]; exact HB.out)
  have hxn : x < (1000000000 : Int) ^ n := by rw [← hvz, ← hlz]; exact pv_lt (by decide) hpz
  have HXN := Lib.hid hxn
  clear hlz hcz hrz hpz htz hvz hl1 hxn hp
  have hfd := fun b => field_p b a n c
  have hn0 : ((n : Int) == 0) = false := beq_eq_false_iff_ne.2 (by omega)
  obtain ⟨k, hk⟩ : ∃ k : Nat, (n + 1) / 2 = k := ⟨_, rfl⟩
  have hk2 : ((n : Int) + 1) / 2 = (k : Int) := by omega
  have hkn : k ≤ n := by omega
  have hk1 : n ≤ 2 * k := by omega
  go_wp2_with (at_make; refine wpList_make_full _ rfl _ _ 49 rfl w'.heap.size 56 i0 (.int .u64 0) 1 Tryz.underlying49 hi hz0 hz1 _ _ _ _ k rfl rfl (by first | exact hk2 | rfl) (by first | exact hk2 | rfl) (by rw [hz2]; omega) (by unfold maxLen; omega) hb.size ?_; intro w4 hown4 hgrow4; refine Hid.out ?_)
  refine Lib.hid ?_
  have h4 : Below w3.heap.size w3 w4 := (Below.refl _ _).grown hgrow4 (Nat.le_refl _) (fun k e => by cases e)
  have hown4' : w4.ownsRow w'.heap.size 56 1 (.slice (some ⟨w3.heap.size, 0, none⟩) k k) k ((List.replicate k (0 : Int)).map (Value.int .u64)) := by
    simpa [toList_madeCells_one, Value.cells] using hown4
  clear hown4 hgrow4 hk hk2
  go_wp2_with (at_builtin; refine list_append_rd rfl _ _ 49 rfl w'.heap.size 56 i0 (.int .u64 0) 8 Tryz.underlying49 hi hz0 hz1 hz2 rfl _ _ _ rfl (hown4'.alloc _) .u64 (some ⟨w4.heap.size, 0, none⟩) 1 1 [1] rfl (Rd.lit1 w4 56 .u64 1) rfl (fun e => by cases e) (by unfold maxLen; omega) (by omega) (by have := hb.size; have := h4.size; simp; omega) ?_; intro v5 w5 hown5 hgrow5; refine Hid.out ?_)
  refine Lib.hid ?_
  have hown5' : w5.ownsRow w'.heap.size 56 1 v5 (k + 1) ((List.replicate k (0 : Int) ++ [1]).map (Value.int .u64)) := by simpa using hown5
  obtain ⟨A5, c5, rfl, hc5, hr5, hl5, hA5, hn5⟩ := Rd.of_own_any hown5' (by omega)
  have hM5 : Mg w5 (.slice A5 (k + 1) c5) ((1000000000 : Int) ^ k) := ⟨A5, k + 1, c5, _, rfl, hl5, hc5, hr5, (Pcs.zeros (by decide) k).append (Pcs.cons (by decide) Pcs.nil), trm_snoc (by decide), by rw [pv_snoc, pv_zeros, List.length_replicate]; omega⟩
  have hs3 := hb.size
  have h5 : Below w'.heap.size w' w5 := ((hb.trans (h4.mono hb.size)).alloc (by have := h4.size; omega) _).grown hgrow5 (by have := h4.size; simp; omega) (fun j e => (hown4'.lt j e).1)
  have h35 : Below w3.heap.size w3 w5 := (h4.alloc h4.size _).grown hgrow5 (by have := h4.size; simp; omega) (fun j e => by cases e; exact Nat.le_refl _)
  have HP5 := Lib.hid (HP.out.below (Nat.le_refl _) h35)
  have HM5 := Lib.hid hM5
  clear hown5 hown5' hgrow5 hown4' h4 h35 hM5 hr5 hl5 hA5 hn5 hc5 HP hb hs3 hfd
  have hpk := pow_pos (show (0 : Int) < 1000000000 by decide) k
  have HK1 := Lib.hid (show x < ((1000000000 : Int) ^ k + 1) * ((1000000000 : Int) ^ k + 1) by
    have h1 := pow_mono (show (0 : Int) < 1000000000 by decide) hk1
    have h2 : (1000000000 : Int) ^ (2 * k) = (1000000000 : Int) ^ k * (1000000000 : Int) ^ k := by rw [← Int.pow_add]; congr 1; omega
    have h3 := HXN.out
    have h4 : ((1000000000 : Int) ^ k + 1) * ((1000000000 : Int) ^ k + 1) = (1000000000 : Int) ^ k * (1000000000 : Int) ^ k + 2 * (1000000000 : Int) ^ k + 1 := by grind
    omega)
  have HK2 := Lib.hid (show (1000000000 : Int) ^ k + x < LIM by
    have h1 := pow_mono (show (0 : Int) < 1000000000 by decide) hkn
    have h3 := HXN.out
    refine lim_of_pow (k := n + 1) (by omega) ?_
    rw [Int.pow_succ]
    omega)
  generalize (1000000000 : Int) ^ k = K at *
  go_wp2_with fail
  go_loopw [5] (fun v wr => ∃ z : Int, Hid (Mg wr v z) ∧ 0 < z ∧ z ≤ K ∧ Hid (x < (z + 1) * (z + 1)) ∧ Below w5.heap.size w5 wr) (fun v wr => mgVal wr v)
  case atStart => exact ⟨K, HM5, hpk, Int.le_refl _, HK1, Below.refl _ _⟩
  case round =>
    obtain ⟨z, HZ, z0, zK, HZX, hbr⟩ := hrel
    clear HM5 HK1
    obtain ⟨wo, rfl⟩ : ∃ wo : World, wo = wr := ⟨_, rfl⟩
    have HPo := Lib.hid (HP5.out.below (Nat.le_refl _) hbr)
    obtain ⟨az, nz, cz, zs, rfl, hrest⟩ := HZ.out
    clear hrest
    go_wp2_with fail
    have x0 : 0 ≤ x := by omega
    have HY1 := Lib.hid (Num.newton_low (n := x) (x := z) x0 z0)
    have HY2 := Lib.hid (fun h => Num.newton_stop (n := x) (x := z) x0 z0 h)
    have y3 := Num.newton_pos (n := x) (x := z) (by omega) z0
    have q0 := Int.ediv_nonneg x0 (Int.le_of_lt z0)
    have q1 := Int.ediv_le_self z x0
    refine (hd z z0 _ _ _ HPo.out HZ.out).mono ?_
    rintro e w6 ⟨q, r1, rfl, hq, hr1', hb6⟩
    generalize x / z = Q at *
    have HQ := Lib.hid hq
    obtain ⟨aq, nq', cq, zq, rfl, hrest⟩ := hq
    obtain ⟨ar, nr, cr, zr, rfl, hrest'⟩ := hr1'
    have HZ6 := Lib.hid (HZ.out.below (Nat.le_refl _) hb6)
    have hbr6 := hbr.trans (hb6.mono hbr.size)
    clear hrest hrest' HPo hb6 hbr
    go_wp2_with fail
    refine (plus_mg _ _ z Q _ HZ6.out HQ.out (by have := HK2.out; omega) (by have := HK2.out; omega)).mono ?_
    rintro e w7 ⟨s, rfl, hs7, hb7⟩
    have HS7 := Lib.hid hs7
    obtain ⟨as7, ns7, cs7, zs7, rfl, hrest⟩ := hs7
    have HZ7 := Lib.hid (HZ6.out.below (Nat.le_refl _) hb7)
    have hbr7 := hbr6.trans (hb7.mono hbr6.size)
    clear hrest hb7 hbr6 HZ6 HQ
    have ha7 : Below w7.heap.size w7 (w7.alloc (.cells #[.int .u64 2] 56)) := (Below.refl _ _).alloc (Nat.le_refl _) _
    go_wp2_with fail
    refine (divide_piece _ _ (z + Q) 2 _ (HS7.out.below (Nat.le_refl _) ha7) (mg_lit w7 2 (by decide) (by decide)) (by have := HK2.out; omega) (by decide) (by decide)).mono ?_
    rintro e w8 ⟨yv, r2, rfl, hy, hr2, hb8⟩
    have HYV := Lib.hid hy.mg
    obtain ⟨ay, ny, cy, zy, rfl, hrest⟩ := hy
    obtain ⟨ar2, nr2, cr2, zr2, rfl, hrest'⟩ := hr2
    have HZ8 := Lib.hid ((HZ7.out.below (Nat.le_refl _) ha7).below (Nat.le_refl _) hb8)
    have hbr8 := (hbr7.trans (ha7.mono hbr7.size)).trans (hb8.mono (by have := hbr7.size; have := ha7.size; omega))
    clear hrest hrest' ha7 hb8 hbr7 HZ7 HS7
    generalize (z + Q) / 2 = Y at *
    go_wp2_with fail
    refine (order_mg _ _ Y z _ HYV.out HZ8.out).mono ?_
    rintro e w9 ⟨rfl, nn, rfl⟩
    have HZ9 := Lib.hid (HZ8.out.drewN nn)
    have HY9 := Lib.hid (HYV.out.drewN nn)
    have hbr9 := below_drewN hbr8 nn
    clear HZ8 HYV hbr8
    by_cases hlt : Y < z
    · rw [cmpI_lt hlt]
      have hm := mgVal_eq HZ.out
      have hm' := mgVal_eq HY9.out
      have HMM := Lib.hid (show mgVal (w8.drewN nn) (.slice ay ny cy) < mgVal wo (.slice az nz cz) by rw [hm, hm']; omega)
      clear hm hm'
      go_wp2_with fail
      go_roundw
      case rel => exact ⟨Y, HY9, by omega, by omega, HY1, hbr9⟩
      case measure => exact HMM.out
    · have hc : 0 ≤ cmpI Y z := by
        rcases Int.lt_or_eq_of_le (Int.not_lt.1 hlt) with h | h
        · rw [cmpI_gt h]; omega
        · rw [cmpI_eq h.symm]; omega
      have hzr : z = r := HU.out z z0 (HY2.out (Int.not_lt.1 hlt)) HZX.out
      generalize cmpI Y z = cc at *
      have h10 := h5.trans (hbr9.mono h5.size)
      go_wp2_with fail
      refine (close_n false _ z _ HZ9.out (by have := HK2.out; omega) (tab_below htab h10)).mono ?_
      rintro e w11 ⟨rfl, hb11⟩
      have h11 := Lib.hid (h10.trans (hb11.mono h10.size))
      rw [if_neg (by decide), hzr]
      go_wp2
      go_ret2
      exact ⟨rfl, h11.out⟩

/-- Root of an integer that is not negative. -/
theorem root_n (x r : Int) (w : World) (hx0 : 0 ≤ x) (hx : (itoa x).length ≤ 100000) (hd : ∀ z, 0 < z → DivAt x z) (hr0 : 0 ≤ r) (hr1 : r * r ≤ x) (hr2 : x < (r + 1) * (r + 1)) (htab : TabIs Tryz.prog w "internal/strconv.uint64pow10" .u64 pow10Tab) :
    Calls Tryz.prog 18 #[.string ⟨(itoa x).toArray⟩] w fun e w' => e = .returned (.tuple #[.string ⟨(itoa r).toArray⟩, .int .i64 0]) ∧ Below w.heap.size w w' := by
  rcases Int.lt_or_eq_of_le hx0 with h | h
  · exact root_pos x r w h hx hd hr0 hr1 hr2 htab
  · subst h
    obtain rfl : r = 0 := Num.root_unique hr0 (Int.le_refl _) hr1 hr2 (by decide) (by decide)
    exact root_zero w

end Go.Proofs.YtpjknkembghjcaaGreatDoor

/- integer.plus: the sum of magnitudes. -/
import Derived.Test.YtpjknkembghjcaaGreatDoorMinus
namespace Go.Proofs.YtpjknkembghjcaaGreatDoor
open Go.RowKit Mag

set_option maxHeartbeats 1000000 in
set_option maxRecDepth 100000 in
theorem plus_any (A A' : Option Addr) (ca cb : Nat) (xs ys : List Int) (w : World) (hx : Rd w .u64 A xs) (hy : Rd w .u64 A' ys) (hn : xs.length ≤ 1000000)
    (px : Pcs 1000000000 xs) (py : Pcs 1000000000 ys) (hle : ys.length ≤ xs.length) :
    Calls Tryz.prog 38 #[.slice A xs.length ca, .slice A' ys.length cb] w fun e w' => ∃ u, e = .returned u ∧ Mg w' u (pv 1000000000 xs + pv 1000000000 ys) ∧ Below w.heap.size w w' := by
  obtain ⟨i0, hi, hz0, hz1, hz2⟩ := info_parts info_u64
  go_enter Tryz.func38, Tryz.ntmps38
  go_wp2_with (at_make; refine wpList_make_own _ rfl _ _ 49 rfl w.heap.size 56 i0 (.int .u64 0) 1 Tryz.underlying49 hi hz0 hz1 _ _ _ (xs.length + 1) rfl rfl (by omega) (by rw [hz2]; omega) (by unfold maxLen; omega) (Nat.le_refl _) ?_; intro w1 hown1 hgrow1)
  have hnx1 : Below w.heap.size w w1 := (Below.refl _ _).grown hgrow1 (Nat.le_refl _) (fun k e => by cases e)
  go_loopw [5, 6, 22] (fun out br i wr => ∃ (k : Nat) (os : List Int) (b : Int), k ≤ xs.length ∧ out = .slice (some ⟨w.heap.size, 0, none⟩) k (xs.length + 1) ∧ br = .int .u64 b ∧ i = .int .i64 k ∧ 0 ≤ b ∧ b ≤ 1 ∧
      wr.ownsRow w.heap.size 56 1 (.slice (some ⟨w.heap.size, 0, none⟩) k (xs.length + 1)) k (os.map (Value.int .u64)) ∧ Hid (os.length = k) ∧ Hid (Pcs 1000000000 os) ∧
      Hid (pv 1000000000 os + b * 1000000000 ^ k = pv 1000000000 (xs.take k) + pv 1000000000 (ys.take k)) ∧ Below w.heap.size w wr) (fun _ _ i _ => xs.length - (intOf i).toNat)
  case atStart => exact ⟨0, [], 0, Nat.zero_le _, rfl, rfl, rfl, by omega, by omega, hown1, Lib.hid rfl, Lib.hid Pcs.nil, Lib.hid (by simp [pv]), hnx1⟩
  case round =>
    obtain ⟨k, os, br, hk, rfl, rfl, rfl, hb0, hb1, hown, HL, HP, HV, hnx⟩ := hrel
    by_cases hlt : k < xs.length
    · obtain ⟨b, off, rfl, hbw, hc⟩ := hx.2 (by omega)
      have c1 := (hnx.cell (p := ⟨b, off + k, none⟩) hbw).trans (hc k hlt)
      have x1 := px.at (by omega) k
      clear hc
      generalize gx : xs.getD k 0 = x at c1 x1
      have GX := Lib.hid gx
      clear gx
      obtain ⟨x0, x1⟩ := x1
      have hs := hnx.size
      by_cases hky : k < ys.length
      · obtain ⟨b', off', rfl, hbw', hc'⟩ := hy.2 (by omega)
        have c2 := (hnx.cell (p := ⟨b', off' + k, none⟩) hbw').trans (hc' k hky)
        have y1 := py.at (by omega) k
        clear hc'
        generalize gy : ys.getD k 0 = y at c2 y1
        have GY := Lib.hid gy
        clear gy
        obtain ⟨y0, y1⟩ := y1
        go_wp2_with (at_builtin; refine wpList_append_fits _ rfl _ _ 49 rfl w.heap.size 56 i0 1 Tryz.underlying49 hi hz1 w.heap.size k (xs.length + 1) _ rfl (hown.alloc _) ⟨wr.heap.size, 0, none⟩ 1 1 [.int .u64 ((br + x + y) % 1000000000)] rfl rfl (by intro t u ht; match t, ht with | 0, ht => simp at ht; subst ht; simp [Addr.add]) (by intro u hu; simp at hu; subst hu; rfl) (by omega) ?_; intro w2 hown2 hgrow2)
        go_roundw
        case rel => exact ⟨k + 1, os ++ [(br + x + y) % 1000000000], (br + x + y) / 1000000000, by omega, rfl, rfl, by go_num, by omega, by omega, by simpa using hown2, Lib.hid (by simp [HL.out]), Lib.hid (HP.out.snoc ⟨by omega, by omega⟩), Lib.hid (plus_step HL.out HV.out (by rw [GX.out, GY.out]; omega)), (hnx.alloc hs _).grown hgrow2 (by simp; omega) (fun j e => by cases e; exact Nat.le_refl _)⟩
        case measure => simp [intOf]; omega
      · go_wp2_with (at_builtin; refine wpList_append_fits _ rfl _ _ 49 rfl w.heap.size 56 i0 1 Tryz.underlying49 hi hz1 w.heap.size k (xs.length + 1) _ rfl (hown.alloc _) ⟨wr.heap.size, 0, none⟩ 1 1 [.int .u64 ((br + x) % 1000000000)] rfl rfl (by intro t u ht; match t, ht with | 0, ht => simp at ht; subst ht; simp [Addr.add]) (by intro u hu; simp at hu; subst hu; rfl) (by omega) ?_; intro w2 hown2 hgrow2)
        go_roundw
        case rel => exact ⟨k + 1, os ++ [(br + x) % 1000000000], (br + x) / 1000000000, by omega, rfl, rfl, by go_num, by omega, by omega, by simpa using hown2, Lib.hid (by simp [HL.out]), Lib.hid (HP.out.snoc ⟨by omega, by omega⟩), Lib.hid (plus_step HL.out HV.out (by rw [GX.out, getD_out (by omega)]; omega)), (hnx.alloc hs _).grown hgrow2 (by simp; omega) (fun j e => by cases e; exact Nat.le_refl _)⟩
        case measure => simp [intOf]; omega
    · obtain rfl : k = xs.length := by omega
      have hs := hnx.size
      have HV2 := Lib.hid (show pv 1000000000 (os ++ [br]) = pv 1000000000 xs + pv 1000000000 ys by
        have := HV.out
        rw [List.take_length, show ys.take xs.length = ys from List.take_of_length_le (by omega)] at this
        rw [pv_snoc, HL.out, Int.mul_comm, this])
      clear HV
      go_wp2_with (first | (at_builtin; refine wpList_append_fits _ rfl _ _ 49 rfl w.heap.size 56 i0 1 Tryz.underlying49 hi hz1 w.heap.size xs.length (xs.length + 1) _ rfl (hown.alloc _) ⟨wr.heap.size, 0, none⟩ 1 1 [.int .u64 (br)] rfl rfl (by intro t u ht; match t, ht with | 0, ht => simp at ht; subst ht; simp [Addr.add]) (by intro u hu; simp at hu; subst hu; rfl) (by omega) ?_; intro w3 hown3 hgrow3) | fail)
      have hnx3 := (hnx.alloc hs (.cells #[.int .u64 br] 56)).grown hgrow3 (by simp; omega) (fun j e => by cases e; exact Nat.le_refl _)
      have hrd := Rd.of_owns (os := os ++ [br]) (by simpa using hown3) (by simp [HL.out]) (by omega)
      have HL3 := Lib.hid (show (os ++ [br]).length = xs.length + 1 by simp [HL.out])
      refine (trim_n _ _ _ (os ++ [br]) _ hrd HL3.out (by omega)).mono ?_
      rintro e w' ⟨⟨m, hm, rfl, htr, hpv⟩, rfl⟩
      have HT := Lib.hid (Mg.of_trim (cap := xs.length + 1) hrd (HP.out.snoc ⟨by omega, by omega⟩) hm (by have := HL3.out; omega) htr (hpv _) HV2.out)
      clear htr hpv hm hrd
      go_wp2
      go_ret
      exact ⟨_, rfl, HT.out, hnx3⟩

set_option maxHeartbeats 1000000 in
set_option maxRecDepth 100000 in
theorem plus_swap (A A' : Option Addr) (ca cb : Nat) (xs ys : List Int) (w : World) (hx : Rd w .u64 A xs) (hy : Rd w .u64 A' ys) (hn : xs.length ≤ 1000000)
    (px : Pcs 1000000000 xs) (py : Pcs 1000000000 ys) (hle : xs.length > ys.length) :
    Calls Tryz.prog 38 #[.slice A' ys.length cb, .slice A xs.length ca] w fun e w' => ∃ u, e = .returned u ∧ Mg w' u (pv 1000000000 xs + pv 1000000000 ys) ∧ Below w.heap.size w w' := by
  obtain ⟨i0, hi, hz0, hz1, hz2⟩ := info_parts info_u64
  go_enter Tryz.func38, Tryz.ntmps38
  go_wp2_with (at_make; refine wpList_make_own _ rfl _ _ 49 rfl w.heap.size 56 i0 (.int .u64 0) 1 Tryz.underlying49 hi hz0 hz1 _ _ _ (xs.length + 1) rfl rfl (by omega) (by rw [hz2]; omega) (by unfold maxLen; omega) (Nat.le_refl _) ?_; intro w1 hown1 hgrow1)
  have hnx1 : Below w.heap.size w w1 := (Below.refl _ _).grown hgrow1 (Nat.le_refl _) (fun k e => by cases e)
  go_loopw [5, 6, 22] (fun out br i wr => ∃ (k : Nat) (os : List Int) (b : Int), k ≤ xs.length ∧ out = .slice (some ⟨w.heap.size, 0, none⟩) k (xs.length + 1) ∧ br = .int .u64 b ∧ i = .int .i64 k ∧ 0 ≤ b ∧ b ≤ 1 ∧
      wr.ownsRow w.heap.size 56 1 (.slice (some ⟨w.heap.size, 0, none⟩) k (xs.length + 1)) k (os.map (Value.int .u64)) ∧ Hid (os.length = k) ∧ Hid (Pcs 1000000000 os) ∧
      Hid (pv 1000000000 os + b * 1000000000 ^ k = pv 1000000000 (xs.take k) + pv 1000000000 (ys.take k)) ∧ Below w.heap.size w wr) (fun _ _ i _ => xs.length - (intOf i).toNat)
  case atStart => exact ⟨0, [], 0, Nat.zero_le _, rfl, rfl, rfl, by omega, by omega, hown1, Lib.hid rfl, Lib.hid Pcs.nil, Lib.hid (by simp [pv]), hnx1⟩
  case round =>
    obtain ⟨k, os, br, hk, rfl, rfl, rfl, hb0, hb1, hown, HL, HP, HV, hnx⟩ := hrel
    by_cases hlt : k < xs.length
    · obtain ⟨b, off, rfl, hbw, hc⟩ := hx.2 (by omega)
      have c1 := (hnx.cell (p := ⟨b, off + k, none⟩) hbw).trans (hc k hlt)
      have x1 := px.at (by omega) k
      clear hc
      generalize gx : xs.getD k 0 = x at c1 x1
      have GX := Lib.hid gx
      clear gx
      obtain ⟨x0, x1⟩ := x1
      have hs := hnx.size
      by_cases hky : k < ys.length
      · obtain ⟨b', off', rfl, hbw', hc'⟩ := hy.2 (by omega)
        have c2 := (hnx.cell (p := ⟨b', off' + k, none⟩) hbw').trans (hc' k hky)
        have y1 := py.at (by omega) k
        clear hc'
        generalize gy : ys.getD k 0 = y at c2 y1
        have GY := Lib.hid gy
        clear gy
        obtain ⟨y0, y1⟩ := y1
        go_wp2_with (at_builtin; refine wpList_append_fits _ rfl _ _ 49 rfl w.heap.size 56 i0 1 Tryz.underlying49 hi hz1 w.heap.size k (xs.length + 1) _ rfl (hown.alloc _) ⟨wr.heap.size, 0, none⟩ 1 1 [.int .u64 ((br + x + y) % 1000000000)] rfl rfl (by intro t u ht; match t, ht with | 0, ht => simp at ht; subst ht; simp [Addr.add]) (by intro u hu; simp at hu; subst hu; rfl) (by omega) ?_; intro w2 hown2 hgrow2)
        go_roundw
        case rel => exact ⟨k + 1, os ++ [(br + x + y) % 1000000000], (br + x + y) / 1000000000, by omega, rfl, rfl, by go_num, by omega, by omega, by simpa using hown2, Lib.hid (by simp [HL.out]), Lib.hid (HP.out.snoc ⟨by omega, by omega⟩), Lib.hid (plus_step HL.out HV.out (by rw [GX.out, GY.out]; omega)), (hnx.alloc hs _).grown hgrow2 (by simp; omega) (fun j e => by cases e; exact Nat.le_refl _)⟩
        case measure => simp [intOf]; omega
      · go_wp2_with (at_builtin; refine wpList_append_fits _ rfl _ _ 49 rfl w.heap.size 56 i0 1 Tryz.underlying49 hi hz1 w.heap.size k (xs.length + 1) _ rfl (hown.alloc _) ⟨wr.heap.size, 0, none⟩ 1 1 [.int .u64 ((br + x) % 1000000000)] rfl rfl (by intro t u ht; match t, ht with | 0, ht => simp at ht; subst ht; simp [Addr.add]) (by intro u hu; simp at hu; subst hu; rfl) (by omega) ?_; intro w2 hown2 hgrow2)
        go_roundw
        case rel => exact ⟨k + 1, os ++ [(br + x) % 1000000000], (br + x) / 1000000000, by omega, rfl, rfl, by go_num, by omega, by omega, by simpa using hown2, Lib.hid (by simp [HL.out]), Lib.hid (HP.out.snoc ⟨by omega, by omega⟩), Lib.hid (plus_step HL.out HV.out (by rw [GX.out, getD_out (by omega)]; omega)), (hnx.alloc hs _).grown hgrow2 (by simp; omega) (fun j e => by cases e; exact Nat.le_refl _)⟩
        case measure => simp [intOf]; omega
    · obtain rfl : k = xs.length := by omega
      have hs := hnx.size
      have HV2 := Lib.hid (show pv 1000000000 (os ++ [br]) = pv 1000000000 xs + pv 1000000000 ys by
        have := HV.out
        rw [List.take_length, show ys.take xs.length = ys from List.take_of_length_le (by omega)] at this
        rw [pv_snoc, HL.out, Int.mul_comm, this])
      clear HV
      go_wp2_with (first | (at_builtin; refine wpList_append_fits _ rfl _ _ 49 rfl w.heap.size 56 i0 1 Tryz.underlying49 hi hz1 w.heap.size xs.length (xs.length + 1) _ rfl (hown.alloc _) ⟨wr.heap.size, 0, none⟩ 1 1 [.int .u64 (br)] rfl rfl (by intro t u ht; match t, ht with | 0, ht => simp at ht; subst ht; simp [Addr.add]) (by intro u hu; simp at hu; subst hu; rfl) (by omega) ?_; intro w3 hown3 hgrow3) | fail)
      have hnx3 := (hnx.alloc hs (.cells #[.int .u64 br] 56)).grown hgrow3 (by simp; omega) (fun j e => by cases e; exact Nat.le_refl _)
      have hrd := Rd.of_owns (os := os ++ [br]) (by simpa using hown3) (by simp [HL.out]) (by omega)
      have HL3 := Lib.hid (show (os ++ [br]).length = xs.length + 1 by simp [HL.out])
      refine (trim_n _ _ _ (os ++ [br]) _ hrd HL3.out (by omega)).mono ?_
      rintro e w' ⟨⟨m, hm, rfl, htr, hpv⟩, rfl⟩
      have HT := Lib.hid (Mg.of_trim (cap := xs.length + 1) hrd (HP.out.snoc ⟨by omega, by omega⟩) hm (by have := HL3.out; omega) htr (hpv _) HV2.out)
      clear htr hpv hm hrd
      go_wp2
      go_ret
      exact ⟨_, rfl, HT.out, hnx3⟩

theorem plus_mg (v v' : Value) (x y : Int) (w : World) (hx : Mg w v x) (hy : Mg w v' y) (bx : x < LIM) (bY : y < LIM) :
    Calls Tryz.prog 38 #[v, v'] w fun e w' => ∃ u, e = .returned u ∧ Mg w' u (x + y) ∧ Below w.heap.size w w' := by
  obtain ⟨a, n, c, xs, rfl, rfl, hc, hr, hp, ht, rfl⟩ := hx
  obtain ⟨a', n', c', ys, rfl, rfl, hc', hr', hp', ht', rfl⟩ := hy
  have l1 := len_of_lim hp ht bx
  have l2 := len_of_lim hp' ht' bY
  by_cases h : ys.length ≤ xs.length
  · exact plus_any a a' c c' xs ys w hr hr' l1 hp hp' h
  · have := plus_swap a' a c' c ys xs w hr' hr l2 hp' hp (by omega)
    rwa [Int.add_comm] at this

end Go.Proofs.YtpjknkembghjcaaGreatDoor

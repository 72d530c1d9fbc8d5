/- The reference's carry. Printed by gen_carry.py. -/
import Derived.Test.YtpjknkembghjcaaGreatDoorRefTake
set_option linter.unusedVariables false
set_option linter.unusedSimpArgs false
namespace Go.Proofs.YtpjknkembghjcaaGreatDoor
open Go.RowKit Go.Lib Go.Proofs.YtpjknkembghjcaaGreatDoor.Dec Go.Proofs.YtpjknkembghjcaaGreatDoor.Mag Go.Proofs.YtpjknkembghjcaaGreatDoor.Chunk

theorem tmod_case (s : Int) : (s.tmod 10000 < 0 ∧ s.tmod 10000 + 10000 = s % 10000) ∨ (0 ≤ s.tmod 10000 ∧ s.tmod 10000 = s % 10000) := by
  by_cases h : 0 ≤ s
  · right
    have e := Int.tmod_eq_emod_of_nonneg (b := 10000) h
    rw [e]; omega
  · have e : s.tmod 10000 = -((-s) % 10000) := by
      rw [show s = -(-s) by omega, Int.neg_tmod, Int.tmod_eq_emod_of_nonneg (by omega), Int.neg_neg]
    rw [e]; omega
theorem carry_quo (s c : Int) (h : c = s % 10000) : (s - c).tdiv 10000 = s / 10000 := by
  subst h
  rw [show s - s % 10000 = 10000 * (s / 10000) by omega]
  exact Int.mul_tdiv_cancel_left _ (by decide)
theorem carry_step {ps xs : List Int} {k : Nat} {o s V : Int} (hl : ps.length = k) (h : pv 10000 ps + 10000 ^ k * (o + pv 10000 (xs.drop k)) = V)
    (hs : o + pv 10000 (xs.drop k) = s + 10000 * pv 10000 (xs.drop (k + 1))) :
    pv 10000 (ps ++ [s % 10000]) + 10000 ^ (k + 1) * (s / 10000 + pv 10000 (xs.drop (k + 1))) = V := by
  have e : s = 10000 * (s / 10000) + s % 10000 := by omega
  rw [hs] at h
  rw [pv_snoc, hl, ← h, Int.pow_succ]
  generalize s / 10000 = q at *
  generalize s % 10000 = r at *
  subst e
  grind
theorem carry_nonneg {ps xs : List Int} {k : Nat} {o V : Int} (hl : ps.length = k) (hp : Pcs 10000 ps) (h : pv 10000 ps + 10000 ^ k * o = V) (hV : 0 ≤ V) : 0 ≤ o := by
  have h1 := pv_lt (by decide) hp
  rw [hl] at h1
  have h2 := pow_pos (B := 10000) (by decide) k
  rcases Int.lt_or_le o 0 with h3 | h3
  · have h4 : (10000 : Int) ^ k * o ≤ (10000 : Int) ^ k * (-1) := Int.mul_le_mul_of_nonneg_left (by omega) (by omega)
    omega
  · exact h3

set_option maxHeartbeats 2000000 in
set_option maxRecDepth 100000 in
theorem carry_any (A : Option Addr) (ca : Nat) (xs : List Int) (w : World) (hx : Rd w .i64 A xs) (hl : xs.length ≤ 1000000) (hb : ∀ j, -1000000000000000 ≤ xs.getD j 0 ∧ xs.getD j 0 ≤ 1000000000000000) (hV : 0 ≤ pv 10000 xs) :
    Calls Tryz.prog 71 #[.slice A xs.length ca] w fun e w' => ∃ v, e = .returned v ∧ MgI w' v (pv 10000 xs) ∧ Below w.heap.size w w' := by
  obtain ⟨i0, hi, hz0, hz1, hz2⟩ := info_parts info_i64
  obtain ⟨V, hVe⟩ : ∃ V, pv 10000 xs = V := ⟨_, rfl⟩
  rw [hVe] at hV ⊢
  have HVE := Lib.hid hVe
  clear hVe
  go_enter Tryz.func71, Tryz.ntmps71
  go_wp2_with fail
  go_loopw [3, 4, 5] (fun sv ov iv wr => ∃ (k : Nat) (o : Int) (ps : List Int), iv = .int .i64 k ∧ ov = .int .i64 o ∧ wr.ownsRow w.heap.size 3 1 sv k (ps.map (Value.int .i64)) ∧ ps.length = k ∧
      -200000000000 ≤ o ∧ o ≤ 200000000000 ∧ (xs.length ≤ k → (k : Int) + o ≤ xs.length + 200000000000) ∧ Hid (Pcs 10000 ps) ∧ Hid (pv 10000 ps + 10000 ^ k * (o + pv 10000 (xs.drop k)) = V) ∧ Below w.heap.size w wr)
      (fun _ o i _ => (xs.length - (intOf i).toNat) * 10000000000000000 + (intOf o).toNat)
  case atStart => exact ⟨0, 0, [], rfl, rfl, World.ownsRow_nil _ _ _ _, rfl, by decide, by decide, by intro h; omega, Lib.hid Pcs.nil, Lib.hid (by have := HVE.out; simp [pv]; exact this), Below.refl _ _⟩
  case round =>
    obtain ⟨k, o, ps, rfl, rfl, hown, hpl, o0, o1, hB, HP, HV, hnx⟩ := hrel
    obtain ⟨wo, rfl⟩ : ∃ wo : World, wo = wr := ⟨_, rfl⟩
    have HL := Lib.hid hpl
    clear hpl
    by_cases hlt : k < xs.length
    · obtain ⟨b, off, rfl, hbw, hc⟩ := hx.2 (by omega)
      have c1 := (hnx.cell (p := ⟨b, off + k, none⟩) hbw).trans (hc k hlt)
      have hbk := hb k
      clear hc
      have hdp := pv_drop_pred 10000 xs k hlt
      generalize gx : xs.getD k 0 = x at c1 hbk hdp
      obtain ⟨x0, x1⟩ := hbk
      have HV2 := Lib.hid (carry_step (s := o + x) HL.out HV.out (by rw [hdp]; omega))
      have HB2 := Lib.hid (show xs.length ≤ k + 1 → ((k + 1 : Nat) : Int) + (o + x) / 10000 ≤ xs.length + 200000000000 from fun h => by omega)
      clear hdp HV gx hB
      have hnd : ¬ ((o + x).tmod 10000 < 0) ∨ (o + x).tmod 10000 < 0 := by omega
      have htc := tmod_case (o + x)
      rcases htc with ⟨t0, t1⟩ | ⟨t0, t1⟩
      · have HQ := Lib.hid (carry_quo (o + x) ((o + x) % 10000) rfl)
        have HC := Lib.hid t1
        have hq1 : -200000000000 ≤ (o + x - (o + x) % 10000).tdiv 10000 ∧ (o + x - (o + x) % 10000).tdiv 10000 ≤ 200000000000 := by rw [HQ.out]; omega
        obtain ⟨hq1, hq2⟩ := hq1
        have hr1 : -10000 ≤ (o + x).tmod 10000 := by omega
        clear hnd
        have hown0 := hown
        go_wp2_with (at_builtin; refine list_append_rd rfl _ _ 62 rfl w.heap.size 3 i0 (.int .i64 0) 8 Tryz.underlying62 hi hz0 hz1 hz2 rfl _ _ _ rfl (hown.alloc _) .i64 (some ⟨wo.heap.size, 0, none⟩) 1 1 [(o + x) % 10000] rfl (Rd.lit1 wo 3 .i64 _) rfl (fun e => by cases e) (by unfold maxLen; omega) (by omega) (by have := hnx.size; simp; omega) ?_; intro s2 w2 hown2 hgrow2; refine Hid.out ?_)
        refine Lib.hid ?_
        have hb2 : Below w.heap.size w w2 := (hnx.alloc hnx.size _).grown hgrow2 (by have := hnx.size; simp; omega) (fun j e => (hown.lt j e).1)
        clear hgrow2 hown hown0 hnx
        go_wp2_with fail
        go_roundw
        case rel => exact ⟨k + 1, (o + x) / 10000, ps ++ [(o + x) % 10000], rfl, by rw [HQ.out], by simpa using hown2, by simp [HL.out], by omega, by omega, HB2.out, Lib.hid (HP.out.snoc ⟨by omega, by omega⟩), HV2, hb2⟩
        case measure => simp [intOf]; rw [HQ.out]; omega
      · have HQ := Lib.hid (carry_quo (o + x) ((o + x) % 10000) rfl)
        have HC := Lib.hid t1
        have hq1 : -200000000000 ≤ (o + x - (o + x) % 10000).tdiv 10000 ∧ (o + x - (o + x) % 10000).tdiv 10000 ≤ 200000000000 := by rw [HQ.out]; omega
        obtain ⟨hq1, hq2⟩ := hq1
        have hr1 : (o + x).tmod 10000 < 10000 := by omega
        clear hnd
        have hown0 := hown
        go_wp2_with (at_builtin; refine list_append_rd rfl _ _ 62 rfl w.heap.size 3 i0 (.int .i64 0) 8 Tryz.underlying62 hi hz0 hz1 hz2 rfl _ _ _ rfl (hown.alloc _) .i64 (some ⟨wo.heap.size, 0, none⟩) 1 1 [(o + x) % 10000] rfl (Rd.lit1 wo 3 .i64 _) rfl (fun e => by cases e) (by unfold maxLen; omega) (by omega) (by have := hnx.size; simp; omega) ?_; intro s2 w2 hown2 hgrow2; refine Hid.out ?_)
        refine Lib.hid ?_
        have hb2 : Below w.heap.size w w2 := (hnx.alloc hnx.size _).grown hgrow2 (by have := hnx.size; simp; omega) (fun j e => (hown.lt j e).1)
        clear hgrow2 hown hown0 hnx
        go_wp2_with fail
        go_roundw
        case rel => exact ⟨k + 1, (o + x) / 10000, ps ++ [(o + x) % 10000], rfl, by rw [HQ.out], by simpa using hown2, by simp [HL.out], by omega, by omega, HB2.out, Lib.hid (HP.out.snoc ⟨by omega, by omega⟩), HV2, hb2⟩
        case measure => simp [intOf]; rw [HQ.out]; omega
    · have hB := hB (by omega)
      have hd0 : xs.drop k = [] := List.drop_of_length_le (by omega)
      have hV0 := HV.out
      rw [hd0, pv_nil, Int.add_zero] at hV0
      have ho := carry_nonneg (xs := xs) HL.out HP.out hV0 hV
      by_cases hoz : o = 0
      · subst hoz
        have hx : pv 10000 ps = V := by simpa using hV0
        have HL2 := HL.out
        subst HL2
        obtain ⟨A', cA, rfl, hcA, hrd, hpl, hAB, hAn⟩ := Rd.of_own_any hown (by omega)
        have HM := Lib.hid (MgI.trimmed (x := V) hrd HP.out hcA hx hAn)
        clear hx HV hV0 hown hAB hAn hd0 HL
        go_wp2_with fail
        refine (cut_det A' ps.length cA ps _ hrd rfl hcA).mono ?_
        rintro e w' ⟨rfl, rfl⟩
        go_wp2_with fail
        go_ret
        exact ⟨_, rfl, HM.out, hnx⟩
      · have HV2 := Lib.hid (carry_step (s := o) HL.out HV.out (by rw [hd0, List.drop_of_length_le (show xs.length ≤ k + 1 by omega), pv_nil]; omega))
        have HB2 := Lib.hid (show xs.length ≤ k + 1 → ((k + 1 : Nat) : Int) + o / 10000 ≤ xs.length + 200000000000 from fun h => by omega)
        clear HV hV0 hd0
        have hne : (o == 0) = false := beq_eq_false_iff_ne.2 hoz
        rcases tmod_case o with ⟨t0, t1⟩ | ⟨t0, t1⟩
        · have e := Int.tmod_eq_emod_of_nonneg (b := 10000) ho
          exfalso; omega
        · have HQ := Lib.hid (carry_quo o (o % 10000) rfl)
          have HC := Lib.hid t1
          have hq1 : 0 ≤ (o - o % 10000).tdiv 10000 ∧ (o - o % 10000).tdiv 10000 ≤ 200000000000 := by rw [HQ.out]; omega
          obtain ⟨hq1, hq2⟩ := hq1
          have hr1 : o.tmod 10000 < 10000 := by omega
          have hown0 := hown
          go_wp2_with (at_builtin; refine list_append_rd rfl _ _ 62 rfl w.heap.size 3 i0 (.int .i64 0) 8 Tryz.underlying62 hi hz0 hz1 hz2 rfl _ _ _ rfl (hown.alloc _) .i64 (some ⟨wo.heap.size, 0, none⟩) 1 1 [o % 10000] rfl (Rd.lit1 wo 3 .i64 _) rfl (fun e => by cases e) (by unfold maxLen; omega) (by omega) (by have := hnx.size; simp; omega) ?_; intro s2 w2 hown2 hgrow2; refine Hid.out ?_)
          refine Lib.hid ?_
          have hb2 : Below w.heap.size w w2 := (hnx.alloc hnx.size _).grown hgrow2 (by have := hnx.size; simp; omega) (fun j e => (hown.lt j e).1)
          clear hgrow2 hown hown0 hnx
          go_wp2_with fail
          go_roundw
          case rel => exact ⟨k + 1, (o) / 10000, ps ++ [(o) % 10000], rfl, by rw [HQ.out], by simpa using hown2, by simp [HL.out], by omega, by omega, HB2.out, Lib.hid (HP.out.snoc ⟨by omega, by omega⟩), HV2, hb2⟩
          case measure => simp [intOf]; rw [HQ.out]; omega

end Go.Proofs.YtpjknkembghjcaaGreatDoor

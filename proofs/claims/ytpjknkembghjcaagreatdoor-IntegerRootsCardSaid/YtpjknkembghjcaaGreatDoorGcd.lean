/- integer.Gcd, of two integers of at most 18 bytes. -/
import Derived.Test.YtpjknkembghjcaaGreatDoorQuick
import Derived.Test.YtpjknkembghjcaaGreatDoorNum
import Derived.Test.YtpjknkembghjcaaGreatDoorClose
set_option linter.unusedVariables false
set_option linter.unusedSimpArgs false
namespace Go.Proofs.YtpjknkembghjcaaGreatDoor
open Go.RowKit Go.Lib Go.Proofs.YtpjknkembghjcaaGreatDoor.Dec Go.Proofs.YtpjknkembghjcaaGreatDoor.Mag Go.Proofs.YtpjknkembghjcaaGreatDoor.Chunk

theorem tmod_bound {p q : Int} (hq : q ≠ 0) : (p.tmod q).natAbs < q.natAbs := by
  rw [Int.natAbs_tmod]; exact Nat.mod_lt _ (by omega)

set_option maxHeartbeats 1000000 in
set_option maxRecDepth 100000 in
theorem gcd_quick (x y : Int) (w : World) (hx : (itoa x).length ≤ 18) (hy : (itoa y).length ≤ 18) (htab : TabIs Tryz.prog w "internal/strconv.uint64pow10" .u64 pow10Tab) :
    Calls Tryz.prog 14 #[.string ⟨(itoa x).toArray⟩, .string ⟨(itoa y).toArray⟩] w fun e w' => e = .returned (.string ⟨(itoa (Int.gcd x y : Int)).toArray⟩) ∧ Below w.heap.size w w' := by
  have bx := itoa_len_le hx
  have bY := itoa_len_le hy
  have hA := Lib.hid (quick_yes x 18 (by decide) w hx)
  go_enter Tryz.func14, Tryz.ntmps14
  go_wp2_with (first
    | (go_at_call 49; refine hA.out.mono ?_; rintro e w1 ⟨rfl, h1⟩; refine Hid.out ?_))
  refine Lib.hid ?_
  have hB := Lib.hid (quick_yes y 18 (by decide) w1 hy)
  go_wp2_with (first
    | (go_at_call 49; refine hB.out.mono ?_; rintro e w2 ⟨rfl, h2⟩; refine Hid.out ?_))
  refine Lib.hid ?_
  have h3 := h1.trans (h2.mono h1.size)
  clear hA hB h1 h2
  go_wp2_with fail
  go_loopw [5, 7] (fun vx vy wr => ∃ p q : Int, vx = .int .i64 p ∧ vy = .int .i64 q ∧ Hid (Int.gcd p q = Int.gcd x y) ∧ -1000000000000000000 < p ∧ p < 1000000000000000000 ∧ -1000000000000000000 < q ∧ q < 1000000000000000000 ∧ Below w.heap.size w wr) (fun _ vy _ => (intOf vy).natAbs)
  case atStart => exact ⟨x, y, rfl, rfl, Lib.hid rfl, by omega, by omega, by omega, by omega, h3⟩
  case round =>
    obtain ⟨p, q, rfl, rfl, hg, p0, p1, q0, q1, hb⟩ := hrel
    clear h3
    obtain ⟨wo, rfl⟩ : ∃ wo : World, wo = wr := ⟨_, rfl⟩
    by_cases hq : q = 0
    · subst hq
      have hm : max p (-p) = (Int.gcd x y : Int) := by rw [← hg.out, Num.gcd_end]
      have hb1 : (Int.gcd x y : Int) < 1000000000000000000 := by omega
      have hb0 : 0 ≤ (Int.gcd x y : Int) := by omega
      have HM := Lib.hid hm
      clear hm hg
      generalize hgg : (Int.gcd x y : Int) = g at *
      have HGG := Lib.hid hgg
      clear hgg
      have hC := Lib.hid (of_n g (by omega) (by omega) wo (tab_below htab hb))
      go_wp2_with fail
      rw [HM.out]
      refine hC.out.mono ?_
      rintro e w3 ⟨rfl, h4⟩
      have h5 := Lib.hid (hb.trans (h4.mono hb.size))
      go_wp2
      go_ret
      exact ⟨by rw [HGG.out]; rfl, h5.out⟩
    · have hq1 : (q == 0) = false := beq_eq_false_iff_ne.2 hq
      have hq2 : (q != 0) = true := by rw [bne_iff_ne]; exact hq
      have ht := tmod_bound (p := p) hq
      have hG := Lib.hid (Num.gcd_step p q)
      go_wp2_with fail
      go_quiet (fail)
      generalize p.tmod q = t at *
      go_wp2_with fail
      go_roundw
      case rel => exact ⟨q, t, rfl, rfl, Lib.hid (hG.out.trans hg.out), by omega, by omega, by omega, by omega, below_drewN hb _⟩
      case measure => simp [intOf]; omega

end Go.Proofs.YtpjknkembghjcaaGreatDoor

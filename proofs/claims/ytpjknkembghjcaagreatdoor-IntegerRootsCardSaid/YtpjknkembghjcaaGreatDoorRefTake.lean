/- The reference's take: the pieces of digits. -/
import Derived.Test.YtpjknkembghjcaaGreatDoorRefCut
import Derived.Test.YtpjknkembghjcaaGreatDoorRefSmall
import Derived.Test.YtpjknkembghjcaaGreatDoorSmall
import Derived.Test.YtpjknkembghjcaaGreatDoorBuilder
set_option linter.unusedVariables false
set_option linter.unusedSimpArgs false
namespace Go.Proofs.YtpjknkembghjcaaGreatDoor
open Go.RowKit Go.Lib Go.Proofs.YtpjknkembghjcaaGreatDoor.Dec Go.Proofs.YtpjknkembghjcaaGreatDoor.Mag Go.Proofs.YtpjknkembghjcaaGreatDoor.Chunk

theorem take_step {ds : List UInt8} {ps : List Int} {m : Nat} (hm : m ≤ ds.length) (h0 : 0 < m)
    (hv : pv 10000 ps + 10000 ^ ps.length * (dval (ds.take m) : Int) = dval ds) :
    pv 10000 (ps ++ [(dval ((ds.take m).drop (m - 4)) : Int)]) + 10000 ^ (ps.length + 1) * (dval (ds.take (m - 4)) : Int) = dval ds := by
  have e : ds.take m = ds.take (m - 4) ++ (ds.take m).drop (m - 4) := by
    have := (List.take_append_drop (m - 4) (ds.take m)).symm
    rwa [List.take_take, Nat.min_eq_left (by omega)] at this
  rw [pv_snoc, ← hv]
  conv => rhs; rw [e, dval_append]
  by_cases h9 : 4 ≤ m
  · have hl : ((ds.take m).drop (m - 4)).length = 4 := by rw [List.length_drop, List.length_take]; omega
    rw [hl, Int.natCast_add, Int.natCast_mul, Int.pow_succ]
    have : ((10 ^ 4 : Nat) : Int) = 10000 := by decide
    rw [this]
    grind
  · have : m - 4 = 0 := by omega
    rw [this, List.take_zero, dval_nil]
    simp
theorem chunk4_lt {l : List UInt8} (h : AllDig l) (hl : l.length ≤ 4) : dval l < 10000 :=
  Nat.lt_of_lt_of_le (dval_lt h) (Nat.le_trans (Nat.pow_le_pow_right (by decide) hl) (by decide))
theorem chunk4_at {t : List UInt8} (h : AllDig t) (k j : Nat) (hj : j ≤ k + 4) : dval ((t.take j).drop k) < 10000 :=
  chunk4_lt ((h.take j).drop k) (by rw [List.length_drop, List.length_take]; omega)
theorem chunk_succ {t : List UInt8} {k j : Nat} (hk : k ≤ j) (hj : j < t.length) : dval ((t.take (j + 1)).drop k) = dval ((t.take j).drop k) * 10 + (t[j].toNat - 48) := by
  rw [List.take_succ_eq_append_getElem hj, List.drop_append_of_le_length (by rw [List.length_take]; omega), dval_snoc]

set_option maxHeartbeats 1000000 in
set_option maxRecDepth 100000 in
theorem take_n (t : List UInt8) (w : World) (hd : AllDig t) (hl : t.length ≤ 1000000) :
    Calls Tryz.prog 44 #[.string ⟨t.toArray⟩] w fun e w' => ∃ v, e = .returned v ∧ MgI w' v (dval t) ∧ Below w.heap.size w w' := by
  obtain ⟨i0, hi, hz0, hz1, hz2⟩ := info_parts info_i64
  have hst := str_size t
  go_enter Tryz.func44, Tryz.ntmps44
  go_wp2_with fail
  go_loopw [3, 4] (fun sv ev wr => ∃ (m : Nat) (z : Int) (ps : List Int), m ≤ t.length ∧ ev = .int .i64 z ∧ z.toNat = m ∧ -4 ≤ z ∧ wr.ownsRow w.heap.size 3 1 sv ps.length (ps.map (Value.int .i64)) ∧ Hid (Pcs 10000 ps) ∧
      (0 < m → m + 4 * ps.length = t.length) ∧ 4 * ps.length ≤ t.length + 3 ∧ Hid (pv 10000 ps + 10000 ^ ps.length * (dval (t.take m) : Int) = dval t) ∧ Below w.heap.size w wr) (fun _ e _ => (intOf e).toNat)
  case atStart => exact ⟨t.length, t.length, [], Nat.le_refl _, rfl, by omega, by omega, World.ownsRow_nil _ _ _ _, Lib.hid Pcs.nil, fun _ => by simp, by simp, Lib.hid (by simp [pv, List.take_length]), Below.refl _ _⟩
  case round =>
    obtain ⟨m, z, ps, hm, rfl, hz, hz4, hown, HP, hmn, hcap, HV, hnx⟩ := hrel
    obtain ⟨wo, rfl⟩ : ∃ wo : World, wo = wr := ⟨_, rfl⟩
    by_cases h0 : 0 < m
    · have hmn := hmn h0
      obtain rfl : z = (m : Int) := by omega
      obtain ⟨k, hk, hkm, hk4⟩ : ∃ k : Nat, max 0 ((m : Int) - 4) = (k : Int) ∧ k ≤ m ∧ k = m - 4 := ⟨m - 4, by omega, by omega, rfl⟩
      have HST := Lib.hid (take_step hm h0 HV.out)
      rw [← hk4] at HST
      have HK4 := Lib.hid hk4
      have hmk4 : m ≤ k + 4 := by omega
      clear HV hz
      go_wp2_with fail
      rw [← hk4]
      clear hk hk4
      go_loopw [5, 6] (fun nv iv wr => ∃ (j : Nat) (c : Int), iv = .int .i64 j ∧ nv = .int .i64 c ∧ k ≤ j ∧ j ≤ m ∧ Hid (c = dval ((t.take j).drop k)) ∧ 0 ≤ c ∧ c < 10000 ∧ wr = wo) (fun _ iv _ => m - (intOf iv).toNat)
      case atStart => exact ⟨k, 0, rfl, rfl, Nat.le_refl _, hkm, Lib.hid (by rw [List.drop_of_length_le (by rw [List.length_take]; omega), dval_nil]; rfl), by decide, by decide, rfl⟩
      case round =>
        obtain ⟨j, c, rfl, rfl, hkj, hjm, HC, c0, c1, hw⟩ := hrel
        obtain rfl : wr = wo := hw
        by_cases hlt : j < m
        · have hjt : j < t.length := by omega
          obtain ⟨b, hbk⟩ : ∃ b, t[j] = b := ⟨_, rfl⟩
          have hget : ∀ h, (⟨t.toArray⟩ : ByteArray)[j]'h = b := fun h => (byte_at t j hjt h).trans hbk
          have hd0 := hd b (by rw [← hbk]; exact List.getElem_mem hjt)
          obtain ⟨hd0, hd1⟩ := hd0
          have hd0' : 48 ≤ (b.toNat : Int) := by omega
          have hd1' : (b.toNat : Int) ≤ 57 := by omega
          have h1 := chunk_succ hkj hjt
          have h2 := chunk4_at hd k (j + 1) (by omega)
          rw [hbk] at h1
          have h3 := HC.out
          have hfit : 10 * c + ((b.toNat : Int) - 48) < 10000 := by omega
          have HC2 := Lib.hid (show 10 * c + (b.toNat : Int) - 48 = dval ((t.take (j + 1)).drop k) by omega)
          clear hbk hd0 hd1 h1 h2 h3
          go_wp2_with fail
          go_roundw
          case rel => exact ⟨j + 1, 10 * c + (b.toNat : Int) - 48, rfl, rfl, by omega, by omega, HC2, by omega, by omega, by first | trivial | rfl⟩
          case measure => simp [intOf]; omega
        · obtain rfl : j = m := by omega
          have HC3 := Lib.hid (show pv 10000 (ps ++ [c]) + 10000 ^ (ps.length + 1) * (dval (t.take k) : Int) = dval t by rw [HC.out]; exact HST.out)
          clear HC HST
          go_wp2_with (at_builtin; refine list_append_rd rfl _ _ 62 rfl w.heap.size 3 i0 (.int .i64 0) 8 Tryz.underlying62 hi hz0 hz1 hz2 rfl _ _ _ rfl (hown.alloc _) .i64 (some ⟨wr.heap.size, 0, none⟩) 1 1 [c] rfl (Rd.lit1 wr 3 .i64 _) rfl (fun e => by cases e) (by unfold maxLen; omega) (by omega) (by have := hnx.size; simp; omega) ?_; intro s2 w2 hown2 hgrow2; refine Hid.out ?_)
          refine Lib.hid ?_
          have hb2 : Below w.heap.size w w2 := (hnx.alloc hnx.size _).grown hgrow2 (by have := hnx.size; simp; omega) (fun j e => (hown.lt j e).1)
          clear hgrow2 hown hnx
          go_wp2_with fail
          go_roundw
          case rel => exact ⟨k, j - 4, ps ++ [c], by omega, rfl, by have := HK4.out; omega, by omega, by simpa using hown2, Lib.hid (HP.out.snoc ⟨c0, c1⟩), by intro hk0; have := HK4.out; simp; omega, by simp; omega, Lib.hid (by simpa using HC3.out), hb2⟩
          case measure => simp [intOf]; omega
    · obtain rfl : m = 0 := by omega
      have hx : pv 10000 ps = dval t := by have := HV.out; simpa [dval_nil] using this
      obtain ⟨A, cA, rfl, hcA, hrd, hpl, hAB, hAn⟩ := Rd.of_own_any hown (by omega)
      have HM := Lib.hid (MgI.trimmed (x := dval t) hrd HP.out hcA hx hAn)
      clear hx HV hown hmn hAB hAn
      go_wp2_with fail
      refine (cut_det A ps.length cA ps _ hrd rfl hcA).mono ?_
      rintro e w' ⟨rfl, rfl⟩
      go_wp2_with fail
      go_ret
      exact ⟨_, rfl, HM.out, hnx⟩

end Go.Proofs.YtpjknkembghjcaaGreatDoor

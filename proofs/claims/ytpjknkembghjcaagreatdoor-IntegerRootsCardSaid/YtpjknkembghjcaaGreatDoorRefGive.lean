/- The reference's give and made. -/
import Derived.Test.YtpjknkembghjcaaGreatDoorRefCut
import Derived.Test.YtpjknkembghjcaaGreatDoorRefTimes
import Derived.Test.YtpjknkembghjcaaGreatDoorQuick
import Derived.Test.YtpjknkembghjcaaGreatDoorClose
import Derived.Test.YtpjknkembghjcaaGreatDoorRefOf
set_option linter.unusedVariables false
set_option linter.unusedSimpArgs false
namespace Go.Proofs.YtpjknkembghjcaaGreatDoor
open Go.RowKit Go.Lib Go.Proofs.YtpjknkembghjcaaGreatDoor.Dec Go.Proofs.YtpjknkembghjcaaGreatDoor.Mag Go.Proofs.YtpjknkembghjcaaGreatDoor.Chunk

theorem dec_pad4 {v d : Nat} (hv : v ≠ 0) (hd : d < 10000) : decDigits v ++ pad 4 d = decDigits (v * 10000 + d) := by
  obtain ⟨c, l, e, h1, h2⟩ := dec_head v hv
  have ha : AllDig (c :: (l ++ pad 4 d)) := by
    have := (dec_all v).append (pad_all 4 d)
    rwa [e, List.cons_append] at this
  have hd' : dval (c :: (l ++ pad 4 d)) = v * 10000 + d := by
    rw [← List.cons_append, ← e, dval_append, dval_dec, dval_pad, pad_length, Nat.mod_eq_of_lt hd]
  rw [← hd', dec_dval ha (Or.inr fun h => by subst h; revert h1; decide), e]
  rfl
theorem dec_ten {d : Nat} (h : d < 10000) : decDigits (10000 + d) = 49 :: pad 4 d := by
  have := dec_pad4 (v := 1) (by decide) h
  have h1 : decDigits 1 = [49] := by
    have h2 := dec_dval (c := 49) (l := []) (AllDig.cons (by decide) AllDig.nil) (Or.inr (by decide))
    have h3 : dval [49] = 1 := by rw [dval_cons, dval_nil]; rfl
    rwa [h3] at h2
  rw [show 10000 + d = 1 * 10000 + d by omega, ← this, h1]
  rfl
theorem give_step {xs : List Int} {i : Nat} (hp : Pcs 10000 xs) (ht : Trm xs) (hi : i + 1 < xs.length) :
    decDigits (pv 10000 (xs.drop (i + 1))).toNat ++ pad 4 (xs.getD i 0).toNat = decDigits (pv 10000 (xs.drop i)).toNat := by
  have h1 := hp.at (by omega) i
  have ht' : Trm (xs.drop (i + 1)) := trm_of_getD fun h => by
    have hx := ht.getD (by omega)
    rw [List.length_drop, List.getD_eq_getElem?_getD, List.getElem?_drop] at *
    rwa [show i + 1 + (xs.length - (i + 1) - 1) = xs.length - 1 by omega]
  have h2 : 0 < pv 10000 (xs.drop (i + 1)) := ht'.pos (by omega) (hp.drop _) (by rw [List.length_drop]; omega)
  rw [dec_pad4 (by omega) (by omega), pv_drop_pred _ _ i (by omega)]
  congr 1
  omega
theorem give_first {xs : List Int} (h : 0 < xs.length) : pv 10000 (xs.drop (xs.length - 1)) = xs.getD (xs.length - 1) 0 := by
  rw [pv_drop_pred _ _ _ (by omega), show xs.length - 1 + 1 = xs.length by omega, List.drop_length, pv_nil]; omega
theorem give_len {xs : List Int} (hp : Pcs 10000 xs) (k : Nat) (h0 : 0 < xs.length) : (decDigits (pv 10000 (xs.drop k)).toNat).length ≤ 4 * xs.length := by
  refine dec_len_le (by omega) ?_
  have h1 := pv_lt (by decide) (hp.drop k)
  have h2 := pv_nonneg (by decide) (hp.drop k)
  have h3 : (10000 : Int) ^ (xs.drop k).length ≤ (10000 : Int) ^ xs.length := pow_mono (by decide) (by rw [List.length_drop]; omega)
  have h4 : ((10 ^ (4 * xs.length) : Nat) : Int) = (10000 : Int) ^ xs.length := by
    rw [Nat.pow_mul]; simp
  omega

set_option maxHeartbeats 1000000 in
set_option maxRecDepth 100000 in
theorem give_any (A : Option Addr) (ca : Nat) (xs : List Int) (w : World) (hx : Rd w .i64 A xs) (hl : xs.length ≤ 1000000) (hp : Pcs 10000 xs) (ht : Trm xs)
    (htab : TabIs Tryz.prog w "internal/strconv.uint64pow10" .u64 pow10Tab) :
    Calls Tryz.prog 72 #[.slice A xs.length ca] w fun e w' => e = .returned (.string ⟨(decDigits (pv 10000 xs).toNat).toArray⟩) ∧ Below w.heap.size w w' := by
  by_cases h0 : 0 < xs.length
  · obtain ⟨b, off, rfl, hbw, hc⟩ := hx.2 h0
    have hA := Lib.hid (fun (x : Int) (h : 0 ≤ x ∧ x ≤ 20000) (w : World) htab => Tryz.strconv_Itoa x (by omega) (by omega) w htab)
    have hne : ((xs.length : Int) == 0) = false := beq_eq_false_iff_ne.2 (by omega)
    have hcl := hc (xs.length - 1) (by omega)
    have hpl := hp.at (by omega) (xs.length - 1)
    have hf := give_first h0
    rw [← hf] at hcl hpl
    have HDL := Lib.hid (show itoa (pv 10000 (xs.drop (xs.length - 1))) = decDigits (pv 10000 (xs.drop (xs.length - 1))).toNat by
      rw [Dec.itoa_nonneg hpl.1]; congr 1; omega)
    obtain ⟨hp0, hp1⟩ := hpl
    have hld := give_len hp (xs.length - 1) h0
    clear hf
    generalize hgx : pv 10000 (xs.drop (xs.length - 1)) = x at *
    have HGX := Lib.hid hgx
    clear hgx
    go_enter Tryz.func72, Tryz.ntmps72
    go_wp2_with (go_at_call 52; refine (hA.out x ⟨by omega, by omega⟩ _ htab).mono ?_; rintro e w1 ⟨rfl, hw⟩; have HB := below_grown hw; clear hw; rw [HDL.out]; refine Hid.out ?_)
    refine Lib.hid ?_
    go_wp2_with fail
    go_loopw [3, 4] (fun sv iv wr => ∃ (k : Nat) (z : Int), iv = .int .i64 z ∧ z = (k : Int) - 1 ∧ k + 1 ≤ xs.length ∧ sv = .string ⟨(decDigits (pv 10000 (xs.drop k)).toNat).toArray⟩ ∧ Below w.heap.size w wr) (fun _ iv _ => (intOf iv + 1).toNat)
    case atStart => exact ⟨xs.length - 1, _, rfl, by omega, by omega, by rw [HGX.out], HB⟩
    case round =>
      obtain ⟨k, z, rfl, hz, hk, rfl, hB⟩ := hrel
      obtain ⟨wo, rfl⟩ : ∃ wo : World, wo = wr := ⟨_, rfl⟩
      have hlk := give_len hp k h0
      cases k with
      | zero =>
        have hzn : z < 0 := by omega
        have hz4 : -4 ≤ z := by omega
        clear hz
        rw [List.drop_zero]
        go_wp2_with fail
        go_ret
        exact ⟨rfl, hB⟩
      | succ j =>
        obtain rfl : z = (j : Int) := by omega
        clear hz
        have hcj := (hB.cell (p := ⟨b, off + j, none⟩) hbw).trans (hc j (by omega))
        have hpj := hp.at (by omega) j
        have hst := give_step hp ht hk
        have HTN := Lib.hid (dec_ten (d := (xs.getD j 0).toNat) (by omega))
        have HPL := Lib.hid (pad_length 4 (xs.getD j 0).toNat)
        have HI := Lib.hid (show itoa (10000 + xs.getD j 0) = 49 :: pad 4 (xs.getD j 0).toNat by
          rw [Dec.itoa_nonneg (by omega), ← HTN.out]; congr 1; omega)
        have hl2 : (pad 4 (xs.getD j 0).toNat).length = 4 := HPL.out
        generalize pad 4 (xs.getD j 0).toNat = P at *
        generalize xs.getD j 0 = y at *
        generalize decDigits (pv 10000 (xs.drop (j + 1))).toNat = D at *
        have HST := Lib.hid hst
        have hly := hx.1
        clear hst HTN
        obtain ⟨hy0, hy1⟩ := hpj
        have HCU := Lib.hid (show (⟨(49 :: P).toArray⟩ : ByteArray).extract 1 5 = ⟨P.toArray⟩ from str_cut (49 :: P) 1 5 (by simp [hl2]))
        have hql : (49 :: P).length = 5 := by simp [hl2]
        generalize 49 :: P = Q at *
        have hsz := str_size Q
        have hsy := str_size D
        have htw := tab_below htab hB
        go_wp2_with (go_at_call 52; refine (hA.out _ ⟨by omega, by omega⟩ _ htw).mono ?_; rintro e w2 ⟨rfl, hw⟩; have HB2 := hB.trans ((below_grown hw).mono hB.size); clear hw; rw [HI.out]; refine Hid.out ?_)
        refine Lib.hid ?_
        have hsz5 : (⟨Q.toArray⟩ : ByteArray).size = 5 := hsz.trans hql
        clear hsz hql
        go_wp2_with fail
        go_roundw
        case rel => exact ⟨j, _, rfl, by omega, by omega, by rw [HCU.out, ← HST.out]; congr 1, HB2⟩
        case measure => simp [intOf]
  · obtain rfl : xs = [] := List.length_eq_zero_iff.1 (by omega)
    simp only [List.length_nil]
    go_enter Tryz.func72, Tryz.ntmps72
    go_wp2
    go_ret
    exact ⟨by rw [pv_nil, show (0 : Int).toNat = 0 from rfl, dec_zero]; rfl, Below.refl _ _⟩

/-- The reference's give on magnitudes. -/
theorem give_n (v : Value) (x : Int) (w : World) (hx : MgI w v x) (bx : x < 10000 ^ 200000) (htab : TabIs Tryz.prog w "internal/strconv.uint64pow10" .u64 pow10Tab) :
    Calls Tryz.prog 72 #[v] w fun e w' => e = .returned (.string ⟨(decDigits x.toNat).toArray⟩) ∧ Below w.heap.size w w' := by
  obtain ⟨a, n, c, xs, rfl, rfl, hc, hr, hp, ht, rfl, _⟩ := hx
  exact give_any a c xs w hr (Nat.le_trans (ht.len_le (by decide) hp bx) (by decide)) hp ht htab

end Go.Proofs.YtpjknkembghjcaaGreatDoor

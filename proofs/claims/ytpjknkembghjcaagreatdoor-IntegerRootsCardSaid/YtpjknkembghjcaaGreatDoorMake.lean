/- law01.Make: the integer of a description. -/
import Derived.Test.YtpjknkembghjcaaGreatDoorRefParse
import Derived.Test.YtpjknkembghjcaaGreatDoorAppend
import Derived.Test.YtpjknkembghjcaaGreatDoorBuilder
import Derived.Test.YtpjknkembghjcaaGreatDoorSmall
set_option linter.unusedVariables false
set_option linter.unusedSimpArgs false
namespace Go.Proofs.YtpjknkembghjcaaGreatDoor
open Go.RowKit Go.Lib Go.Proofs.YtpjknkembghjcaaGreatDoor.Dec Go.Proofs.YtpjknkembghjcaaGreatDoor.Mag Go.Proofs.YtpjknkembghjcaaGreatDoor.Chunk

/-- Digits in memory, as a caller hands them over. -/
def RdB (w : World) (A : Option Addr) (xs : List Int) : Prop :=
  xs.length ≤ maxLen ∧ (0 < xs.length → ∃ b off, A = some ⟨b, off, none⟩ ∧ b < w.heap.size ∧ ∀ j, j < xs.length → w.cell? ⟨b, off + j, none⟩ = some (.int .u8 (xs.getD j 0)))
theorem RdB.below {w w1 : World} {A : Option Addr} {xs : List Int} (h : RdB w A xs) (hb : Below w.heap.size w w1) : RdB w1 A xs := by
  refine ⟨h.1, fun h0 => ?_⟩
  obtain ⟨b, off, e, hlt, hc⟩ := h.2 h0
  exact ⟨b, off, e, Nat.lt_of_lt_of_le hlt hb.size, fun j hj => (hb.cell (p := ⟨b, off + j, none⟩) hlt).trans (hc j hj)⟩

/-- The digits of a description. -/
def mk (ds : List Int) : List UInt8 := ds.map fun d => UInt8.ofNat (48 + (d % 10).toNat)
theorem mk_length (ds : List Int) : (mk ds).length = ds.length := by simp [mk]
theorem mk_byte (d : Int) : (UInt8.ofNat (48 + (d % 10).toNat)).toNat = 48 + (d % 10).toNat := by
  have : (d % 10).toNat < 10 := by omega
  rw [UInt8.toNat_ofNat']; omega
theorem mk_all (ds : List Int) : AllDig (mk ds) := by
  intro c hc
  obtain ⟨d, _, rfl⟩ := List.mem_map.1 hc
  rw [mk_byte]; omega
theorem mk_succ {ds : List Int} {k : Nat} (h : k < ds.length) : mk (ds.take (k + 1)) = mk (ds.take k) ++ [UInt8.ofNat (48 + (ds.getD k 0 % 10).toNat)] := by
  rw [take_snoc _ _ h]; simp [mk]
/-- The integer of a description. -/
def makeVal (minus : Bool) (ds : List Int) (N : Nat) : Int := if minus then -((dval (mk (ds.take N)) : Nat) : Int) else ((dval (mk (ds.take N)) : Nat) : Int)

theorem digs_no_sign {c : UInt8} {l : List UInt8} (h : AllDig (c :: l)) : c ≠ 45 ∧ c ≠ 43 := by
  have := h.head
  constructor <;> (rintro rfl; revert this; decide)
theorem parseOut_digs {l : List UInt8} (h : AllDig l) (hl : l.length ≤ 200) : parseOut l = if l = [] then ([], 13) else (itoa ((dval l : Nat) : Int), 0) := by
  cases l with
  | nil => rfl
  | cons c r =>
    obtain ⟨h1, h2⟩ := digs_no_sign h
    have hp : hasPrefix (c :: r) [45] = false := by
      rw [prefix_cons]; exact beq_eq_false_iff_ne.2 (fun e => h1 e.symm)
    rw [parseOut_of (neg := false) (t := c :: r) (by simp) hp (by rw [if_neg (by decide), trim_miss h2]), if_neg (by simp [digs_iff.2 h]), if_neg (show ¬ (c :: r = []) by simp)]
    have key : ∀ (l : List UInt8), AllDig l → (trimLeftB l 48 = [] ∧ dval l = 0) ∨ (∃ d u, trimLeftB l 48 = d :: u ∧ d ≠ 48 ∧ AllDig (d :: u) ∧ dval l = dval (d :: u) ∧ (d :: u).length ≤ l.length) := by
      intro l
      induction l with
      | nil => intro _; exact .inl ⟨rfl, rfl⟩
      | cons c l ih =>
        intro ha
        by_cases hc : c = 48
        · subst hc
          have hv : dval (48 :: l) = dval l := by rw [dval_cons]; simp
          rw [trim_zero, hv]
          rcases ih ha.tail with h | ⟨d, u, e1, e2, e3, e4, e5⟩
          · exact .inl h
          · exact .inr ⟨d, u, e1, e2, e3, e4, by simp at *; omega⟩
        · exact .inr ⟨c, l, trim_other hc l, hc, ha, rfl, Nat.le_refl _⟩
    rcases key _ h with ⟨h3, h4⟩ | ⟨d, u, h3, h4, h5, h6, h7⟩
    · rw [if_pos h3, h4]
      rw [show ((0 : Nat) : Int) = 0 from rfl, itoa_zero]
    · rw [if_neg (by rw [h3]; simp), h3, if_neg (by omega), h6, itoa_nat, dec_dval h5 (.inr h4)]
      rfl

theorem makeVal_len (minus : Bool) (ds : List Int) (N : Nat) (hN : 1 ≤ N) : (itoa (makeVal minus ds N)).length ≤ N + 1 := by
  have h1 := dval_lt (mk_all (ds.take N))
  have h2 : (mk (ds.take N)).length ≤ N := by rw [mk_length, List.length_take]; omega
  have h3 : dval (mk (ds.take N)) < 10 ^ N := Nat.lt_of_lt_of_le h1 (Nat.pow_le_pow_right (by decide) h2)
  have h4 := dec_len_le hN h3
  have h5 : (makeVal minus ds N).natAbs = dval (mk (ds.take N)) := by
    unfold makeVal; split <;> omega
  rw [itoa_signed, h5, signed]
  split
  · rw [List.length_cons]; omega
  · omega

set_option maxHeartbeats 2000000 in
set_option maxRecDepth 100000 in
theorem make_n (minus : Bool) (A : Option Addr) (ca : Nat) (ds : List Int) (N : Nat) (w : World) (hr : RdB w A ds) (hb : ∀ k, k < ds.length → 0 ≤ ds.getD k 0 ∧ ds.getD k 0 < 256) (hN : N ≤ 100) :
    Calls Tryz.prog 10 #[.agg #[.bool minus, .slice A ds.length ca], .int .i64 (N : Int)] w fun e w' => e = .returned (.string ⟨(itoa (makeVal minus ds N)).toArray⟩) ∧ Below w.heap.size w w' := by
  obtain ⟨i0, hi, hz0, hz1, hz2⟩ := info_parts info_u8
  have hld : ds.length ≤ 9223372036854775807 := hr.1
  obtain ⟨Z, hZ⟩ : ∃ Z, makeVal minus ds N = Z := ⟨_, rfl⟩
  rw [hZ]
  have HZ := Lib.hid hZ
  clear hZ
  go_enter Tryz.func10, Tryz.ntmps10
  go_wp2_with fail
  generalize hW0 : w.alloc (.cells #[.bool minus, .slice A ds.length ca] 24) = W0
  have h0 : Below w.heap.size w W0 := by rw [← hW0]; exact (Below.refl _ _).alloc (Nat.le_refl _) _
  have c0 : W0.cell? ⟨w.heap.size, 0, none⟩ = some (.bool minus) := by rw [← hW0]; simp
  have c1 : W0.cell? ⟨w.heap.size, 1, none⟩ = some (.slice A ds.length ca) := by rw [← hW0]; simp
  have hs0 : W0.heap.size = w.heap.size + 1 := by rw [← hW0]; simp
  have hr0 := Lib.hid (hr.below h0)
  clear hW0 hr
  have HS0 := Lib.hid hs0
  have C0 := Lib.hid c0
  have C1 := Lib.hid c1
  clear hs0 c0 c1
  go_loopw [5, 6] (fun s i wr => ∃ k : Nat, i = .int .i64 k ∧ k ≤ ds.length ∧ k ≤ N ∧ wr.ownsRow (w.heap.size + 1) 5 1 s k ((mk (ds.take k)).map fun b => Value.int .u8 (b.toNat : Int)) ∧ Below (w.heap.size + 1) W0 wr) (fun _ i _ => ds.length - (intOf i).toNat)
  case atStart => exact ⟨0, rfl, Nat.zero_le _, Nat.zero_le _, World.ownsRow_nil _ _ _ _, Below.refl _ _⟩
  case round =>
    obtain ⟨k, rfl, hk, hkN, hown, hbr⟩ := hrel
    obtain ⟨wo, rfl⟩ : ∃ wo : World, wo = wr := ⟨_, rfl⟩
    have d0 := (hbr.cell (p := ⟨w.heap.size, 0, none⟩) (Nat.lt_succ_self _)).trans C0.out
    have d1 := (hbr.cell (p := ⟨w.heap.size, 1, none⟩) (Nat.lt_succ_self _)).trans C1.out
    by_cases hgo : k < ds.length ∧ k < N
    · obtain ⟨g1, g2⟩ := hgo
      have g1' : (k : Int) < (ds.length : Int) := by omega
      have g2' : (k : Int) < (N : Int) := by omega
      obtain ⟨bA, oA, rfl, hbA, hcA⟩ := hr0.out.2 (by omega)
      have ck := (hbr.cell (p := ⟨bA, oA + k, none⟩) (by have := HS0.out; show bA < w.heap.size + 1; omega)).trans (hcA k g1)
      have hdb := hb k g1
      have HM := Lib.hid (mk_succ g1)
      generalize ds.getD k 0 = d at *
      have hdm : 0 ≤ d % 10 ∧ d % 10 < 10 := by omega
      have HBY := Lib.hid (mk_byte d)
      have hszb := hbr.size
      have hsz0 := HS0.out
      have hwo : w.heap.size + 1 ≤ wo.heap.size := by omega
      clear hsz0
      go_wp2_with (at_builtin; refine list_append_rd rfl _ _ 22 rfl (w.heap.size + 1) 5 i0 (.int .u8 0) 1 Tryz.underlying22 hi hz0 hz1 hz2 rfl _ _ _ rfl (hown.alloc _) .u8 (some ⟨wo.heap.size, 0, none⟩) 1 1 [48 + d % 10] rfl (Rd.lit1 wo 5 .u8 _) rfl (fun e => by cases e) (by unfold maxLen; omega) (by omega) (by simp; omega) ?_; intro s2 w2 hown2 hgrow2; refine Hid.out ?_)
      refine Lib.hid ?_
      have hb2 : Below (w.heap.size + 1) W0 w2 := (hbr.alloc hwo _).grown hgrow2 (by simp; omega) (fun j e => (hown.lt j e).1)
      have hown3 : w2.ownsRow (w.heap.size + 1) 5 1 s2 (k + 1) ((mk (ds.take (k + 1))).map fun b => Value.int .u8 (b.toNat : Int)) := by
        rw [HM.out, List.map_append, List.map_singleton, HBY.out, show ((48 + (d % 10).toNat : Nat) : Int) = 48 + d % 10 by omega]
        exact hown2
      clear hown2 hgrow2 hown hbr
      go_wp2_with fail
      go_roundw
      case rel => exact ⟨k + 1, rfl, by omega, by omega, hown3, hb2⟩
      case measure => simp [intOf]; omega
    · have hE : mk (ds.take k) = mk (ds.take N) := by
        rcases Nat.lt_or_ge k N with h | h
        · have : k = ds.length := by omega
          rw [List.take_of_length_le (by omega), List.take_of_length_le (by omega)]
        · rw [show k = N by omega]
      have hlk : (mk (ds.take k)).length = k := by rw [mk_length, List.length_take]; omega
      obtain ⟨A', c', rfl, hc', hrd, hl', hA', hn'⟩ := Rd.of_own_any (k := .u8) (os := (mk (ds.take k)).map fun b => (b.toNat : Int)) (by rw [List.map_map]; exact hown) (by omega)
      have hcv : (convert 22 9 (.slice A' k c')).run Tryz.prog wo = .ok (.string ⟨(mk (ds.take k)).toArray⟩) wo := by
        cases A' with
        | none =>
          have hk0 : k = 0 := by
            rcases Nat.eq_zero_or_pos k with h | h
            · exact h
            · obtain ⟨_, _, e, _⟩ := hrd.2 (by rw [hl']; exact h); cases e
          subst hk0
          rw [run_convert_bytes_string wo 22 9 5 none 0 c' Tryz.underlying22 Tryz.underlying5 Tryz.underlying9]
          rfl
        | some ad =>
          have h := run_convert_bytes_back (P := Tryz.prog) wo 22 9 5 ad c' (mk (ds.take k)) Tryz.underlying22 Tryz.underlying5 Tryz.underlying9 (fun j hj => by
            obtain ⟨b, off, e, _, hcc⟩ := hrd.2 (by rw [hl']; omega)
            cases e
            have := hcc j (by simpa using hj)
            rw [Lib.add_plain, this, List.getD_eq_getElem?_getD, List.getElem?_map, List.getElem?_eq_getElem hj]
            rfl)
          rw [hlk] at h
          exact h
      clear hown hrd hl' hA' hn' hc'
      have hll : (mk (ds.take k)).length ≤ 200 := by omega
      have hP := parseOut_digs (mk_all (ds.take k)) hll
      have hal := mk_all (ds.take k)
      have HZ2 := Lib.hid (show (if minus then -((dval (mk (ds.take k)) : Nat) : Int) else ((dval (mk (ds.take k)) : Nat) : Int)) = Z by rw [hE]; exact HZ.out)
      have HCV := Lib.hid hcv
      clear hcv hE
      generalize mk (ds.take k) = l at *
      have HP := Lib.hid hP
      have hll2 := Lib.hid hll
      clear hP
      have hwm := hbr.mono (Nat.le_succ w.heap.size)
      have hbw := h0.trans hwm
      have hws : w.heap.size < wo.heap.size := by have := hbr.size; have := HS0.out; omega
      have hways : ((k : Int) < (ds.length : Int) ∧ ¬ (k : Int) < (N : Int)) ∨ ¬ (k : Int) < (ds.length : Int) := by omega
      clear hgo hk hkN hll hlk h0 hwm
      by_cases hl0 : l = []
      · have HP2 := Lib.hid (HP.out.trans (if_pos hl0))
        have hz0 : Z = 0 := by rw [← HZ2.out, hl0]; cases minus <;> rfl
        have HZ0 := Lib.hid hz0
        have hN0 := Lib.hid ref_neg_zero
        clear hl0 hz0
        cases minus
        all_goals
          rcases hways with ⟨g1, g2⟩ | g1
          all_goals
            go_wp2_with fail
            rw [HCV.out]
            go_wp2_with (first
              | (go_at_call 35; refine (ref_parse_n l _ (by have := hll2.out; omega)).mono ?_; rintro e w5 ⟨rfl, h5⟩; rw [HP2.out]; have b5 := hbw.trans (h5.mono hbw.size); have e0 := (h5.cell (p := ⟨w.heap.size, 0, none⟩) hws).trans d0)
              | (go_at_call 31; refine (hN0.out _).mono ?_; rintro e w6 ⟨rfl, h6⟩; have b6 := b5.trans ((below_dn h6).mono b5.size)))
            go_ret
            exact ⟨by rw [HZ0.out, itoa_zero]; rfl, by first | exact b6 | exact b5⟩
      · have HP2 := Lib.hid (HP.out.trans (if_neg hl0))
        clear hl0
        have hlv : (itoa ((dval l : Nat) : Int)).length ≤ 1000000 := by
          have h1 := dval_lt hal
          have h2 : dval l < 10 ^ 201 := Nat.lt_of_lt_of_le h1 (Nat.pow_le_pow_right (by decide) (by have := hll2.out; omega))
          have h3 := dec_len_le (k := 201) (by decide) h2
          rw [itoa_nat]; omega
        have hN1 := Lib.hid (fun w => ref_neg_n ((dval l : Nat) : Int) w (by omega))
        generalize ((dval l : Nat) : Int) = v at *
        cases minus
        all_goals
          have HZ3 := Lib.hid HZ2.out
          simp only [if_true, if_false, Bool.false_eq_true] at HZ3
          rcases hways with ⟨g1, g2⟩ | g1
          all_goals
            go_wp2_with fail
            rw [HCV.out]
            go_wp2_with (first
              | (go_at_call 35; refine (ref_parse_n l _ (by have := hll2.out; omega)).mono ?_; rintro e w5 ⟨rfl, h5⟩; rw [HP2.out]; have b5 := hbw.trans (h5.mono hbw.size); have e0 := (h5.cell (p := ⟨w.heap.size, 0, none⟩) hws).trans d0)
              | (go_at_call 31; refine (hN1.out _).mono ?_; rintro e w6 ⟨rfl, h6⟩; have b6 := b5.trans ((below_dn h6).mono b5.size)))
            go_ret
            exact ⟨by rw [← HZ3.out]; rfl, by first | exact b6 | exact b5⟩

/-- .. the number of digits as the caller writes it. -/
theorem make_i (M : Int) (minus : Bool) (A : Option Addr) (ca : Nat) (ds : List Int) (N : Nat) (hM : M = (N : Int)) (w : World) (hr : RdB w A ds) (hb : ∀ k, k < ds.length → 0 ≤ ds.getD k 0 ∧ ds.getD k 0 < 256) (hN : N ≤ 100) :
    Calls Tryz.prog 10 #[.agg #[.bool minus, .slice A ds.length ca], .int .i64 M] w fun e w' => e = .returned (.string ⟨(itoa (makeVal minus ds N)).toArray⟩) ∧ Below w.heap.size w w' := by
  subst hM
  exact make_n minus A ca ds N w hr hb hN

end Go.Proofs.YtpjknkembghjcaaGreatDoor

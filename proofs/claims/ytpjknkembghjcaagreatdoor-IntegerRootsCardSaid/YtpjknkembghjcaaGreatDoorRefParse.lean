/- The reference's Parse. -/
import Derived.Test.YtpjknkembghjcaaGreatDoorRefSplit
import Derived.Test.YtpjknkembghjcaaGreatDoorParse
set_option linter.unusedVariables false
set_option linter.unusedSimpArgs false
namespace Go.Proofs.YtpjknkembghjcaaGreatDoor
open Go.RowKit Go.Lib Go.Proofs.YtpjknkembghjcaaGreatDoor.Dec Go.Proofs.YtpjknkembghjcaaGreatDoor.Mag Go.Proofs.YtpjknkembghjcaaGreatDoor.Chunk

theorem byte_at (l : List UInt8) (k : Nat) (hk : k < l.length) (h : k < (⟨l.toArray⟩ : ByteArray).size) : (⟨l.toArray⟩ : ByteArray)[k]'h = l[k] := rfl
theorem digs_take_succ {l : List UInt8} {k : Nat} (hk : k < l.length) : digs (l.take (k + 1)) = (digs (l.take k) && (decide (48 ≤ l[k].toNat) && decide (l[k].toNat ≤ 57))) := by
  rw [List.take_succ_eq_append_getElem hk, digs, List.all_append]
  simp [digs]
theorem digs_no {l : List UInt8} {k : Nat} (hk : k < l.length) (h : ¬ (48 ≤ l[k].toNat ∧ l[k].toNat ≤ 57)) : digs l = false := by
  cases hd : digs l
  · rfl
  · exact absurd (digs_iff.1 hd _ (List.getElem_mem hk)) h

set_option maxHeartbeats 1000000 in
set_option maxRecDepth 100000 in
theorem ref_parse_empty (w : World) :
    Calls Tryz.prog 35 #[.string ⟨#[]⟩] w fun e w' => e = .returned (.tuple #[.string ⟨#[]⟩, .int .i64 13]) ∧ w' = w := by
  go_enter Tryz.func35, Tryz.ntmps35
  go_wp2
  go_ret2
  exact ⟨rfl, rfl⟩

theorem trim_zero (t : List UInt8) : trimLeftB (48 :: t) 48 = trimLeftB t 48 := by simp [trimLeftB]
theorem trim_other {c : UInt8} (h : c ≠ 48) (t : List UInt8) : trimLeftB (c :: t) 48 = c :: t := by simp [trimLeftB, h]

/-- Neg of digits that begin with no zero, or are one zero. -/
theorem ref_neg_digs (d : UInt8) (u : List UInt8) (hd : digs (d :: u) = true) (h : d ≠ 48) (w : World) (hl : (d :: u).length ≤ 1000000) :
    Calls Tryz.prog 31 #[.string ⟨(d :: u).toArray⟩] w fun e w' => e = .returned (.string ⟨(45 :: d :: u).toArray⟩) ∧ ∃ n, w' = w.drewN n := by
  have ha := digs_iff.1 hd
  have e := dec_dval ha (.inr h)
  have h49 : 49 ≤ d.toNat := by
    have h1 := ha.head
    rcases Nat.lt_or_ge d.toNat 49 with h2 | h2
    · exact absurd (UInt8.toNat_inj.1 (show d.toNat = (48 : UInt8).toNat by show d.toNat = 48; omega)) h
    · exact h2
  have hp := dval_pos (l := u) h49
  have hp1 : 1 ≤ 10 ^ u.length := Nat.one_le_pow _ _ (by decide)
  have ei : itoa ((dval (d :: u) : Nat) : Int) = d :: u := by rw [itoa_nat, e]
  have hh := ref_neg_n ((dval (d :: u) : Nat) : Int) w (by rw [ei]; omega)
  rw [ei, Dec.itoa_neg (by omega), Int.natAbs_neg, Int.natAbs_natCast, e] at hh
  exact hh
theorem ref_neg_zero (w : World) :
    Calls Tryz.prog 31 #[.string ⟨[48].toArray⟩] w fun e w' => e = .returned (.string ⟨[48].toArray⟩) ∧ ∃ n, w' = w.drewN n := by
  have hh := ref_neg_n 0 w (by rw [itoa_zero]; decide)
  rw [show (-0 : Int) = 0 by decide, itoa_zero] at hh
  exact hh
theorem digs_tail {d : UInt8} {u : List UInt8} (h : digs (d :: u) = true) : digs u = true := digs_iff.2 (digs_iff.1 h).tail

set_option maxHeartbeats 2000000 in
set_option maxRecDepth 100000 in
theorem ref_parse_some (c : UInt8) (r t : List UInt8) (neg : Bool) (w : World) (hl : (c :: r).length ≤ 1000000) (hn : hasPrefix (c :: r) [45] = neg) (ht : (if neg then trimPrefix (c :: r) [45] else trimPrefix (c :: r) [43]) = t) (O : List UInt8 × Int)
    (hO : O = if t = [] ∨ digs t = false then ([], 15) else if trimLeftB t 48 = [] then ([48], 0) else if 200 < (trimLeftB t 48).length then ([], 4) else (signed neg (trimLeftB t 48), 0)) :
    Calls Tryz.prog 35 #[.string ⟨(c :: r).toArray⟩] w fun e w' => e = .returned (.tuple #[.string ⟨O.1.toArray⟩, .int .i64 O.2]) ∧ Below w.heap.size w w' := by
  have HO := Lib.hid hO
  clear hO
  have hg := head_get c r
  have hcut := str_cut (c :: r) 1 _ rfl
  rw [List.drop_succ_cons, List.drop_zero] at hcut
  have hcut' : (⟨(c :: r).toArray⟩ : ByteArray).extract 1 (r.length + 1) = ⟨r.toArray⟩ := hcut
  clear hcut
  have hsz := str_size (c :: r)
  have hways : (c = 45 ∧ neg = true ∧ t = r) ∨ (c = 43 ∧ neg = false ∧ t = r) ∨ (c ≠ 45 ∧ c ≠ 43 ∧ neg = false ∧ t = c :: r) := by
    by_cases h1 : c = 45
    · subst h1
      obtain rfl : neg = true := by rw [← hn, prefix_cons]; rfl
      rw [if_pos rfl, trim_hit] at ht
      exact .inl ⟨rfl, rfl, ht.symm⟩
    · rw [prefix_cons, show ((45 : UInt8) == c) = false from beq_eq_false_iff_ne.2 (fun e => h1 e.symm)] at hn
      subst hn
      rw [if_neg (by decide)] at ht
      by_cases h2 : c = 43
      · subst h2
        rw [trim_hit] at ht
        exact .inr (.inl ⟨rfl, rfl, ht.symm⟩)
      · rw [trim_miss h2] at ht
        exact .inr (.inr ⟨h1, h2, rfl, ht.symm⟩)
  clear hn ht
  have hlt : t.length ≤ 1000000 := by
    have h9 : (c :: r).length = r.length + 1 := rfl
    rcases hways with ⟨_, _, h⟩ | ⟨_, _, h⟩ | ⟨_, _, _, h⟩ <;> rw [h] <;> omega
  rcases hways with ⟨rfl, rfl, rfl⟩ | ⟨rfl, rfl, rfl⟩ | ⟨h1, h2, rfl, ht⟩
  rotate_left 2
  have e1 : ((c.toNat : Int) == 45) = false := byte_ne h1
  have e2 : ((c.toNat : Int) == 43) = false := byte_ne h2
  go_enter Tryz.func35, Tryz.ntmps35
  go_wp2_with fail
  clear hg hcut' hsz e1 e2 h1 h2 hl
  generalize c :: r = t' at *
  subst ht
  rotate_left
  go_enter Tryz.func35, Tryz.ntmps35
  go_wp2_with fail
  clear hg hcut' hsz hl
  rotate_left
  go_enter Tryz.func35, Tryz.ntmps35
  go_wp2_with fail
  clear hg hcut' hsz hl
  all_goals
    have hst := str_size t
    go_loopw [5] (fun i wr => ∃ k : Nat, i = .int .i64 k ∧ k ≤ t.length ∧ Hid (digs (t.take k) = true) ∧ wr = w) (fun i _ => t.length - (intOf i).toNat)
    case atStart => exact ⟨0, rfl, Nat.zero_le _, Lib.hid rfl, rfl⟩
    case round =>
      obtain ⟨k, rfl, hk, hD, hw⟩ := hrel
      obtain rfl : wr = w := hw
      obtain ⟨wr0, hwr0⟩ : ∃ wr0 : World, wr0 = wr := ⟨_, rfl⟩
      by_cases hkt : k < t.length
      · obtain ⟨b, hb⟩ : ∃ b, t[k] = b := ⟨_, rfl⟩
        have hget : ∀ h, (⟨t.toArray⟩ : ByteArray)[k]'h = b := fun h => (byte_at t k hkt h).trans hb
        by_cases h48 : b.toNat < 48
        · have h48' : (b.toNat : Int) < 48 := by omega
          have HO2 := Lib.hid (HO.out.trans (if_pos (.inr (digs_no hkt (by rw [hb]; omega)))))
          clear hb
          go_wp2_with fail
          go_ret2
          exact ⟨by rw [HO2.out]; rfl, Below.refl _ _⟩
        · have h48' : ¬ (b.toNat : Int) < 48 := by omega
          by_cases h57 : 57 < b.toNat
          · have h57' : 57 < (b.toNat : Int) := by omega
            have HO2 := Lib.hid (HO.out.trans (if_pos (.inr (digs_no hkt (by rw [hb]; omega)))))
            clear hb
            go_wp2_with fail
            go_ret2
            exact ⟨by rw [HO2.out]; rfl, Below.refl _ _⟩
          · have h57' : ¬ 57 < (b.toNat : Int) := by omega
            have hD2 := Lib.hid (show digs (t.take (k + 1)) = true by
              rw [digs_take_succ hkt, hD.out, hb]; simp; omega)
            clear hb
            go_wp2_with fail
            go_roundw
            case rel => exact ⟨k + 1, rfl, by omega, hD2, by first | trivial | rfl⟩
            case measure => simp [intOf]; omega
      · obtain rfl : k = t.length := by omega
        have hdt : digs t = true := by have := hD.out; rwa [List.take_length] at this
        have HDT := Lib.hid hdt
        clear hdt hD
        by_cases ht0 : t = []
        · have HO2 := Lib.hid (HO.out.trans (if_pos (.inl ht0)))
          have htz : (t == []) = true := by rw [ht0]; rfl
          have hl0 : t.length = 0 := by rw [ht0]; rfl
          clear ht0
          go_wp2_with fail
          go_ret2
          exact ⟨by rw [HO2.out]; rfl, Below.refl _ _⟩
        · have htz : (t == []) = false := by rw [beq_eq_false_iff_ne]; exact ht0
          have HO2 := Lib.hid (HO.out.trans (if_neg (by rintro (h | h); exact ht0 h; rw [HDT.out] at h; cases h)))
          go_wp2_with fail
          have hut := Lib.hid ht0
          subst hwr0
          clear ht0 htz
          go_loopw [0] (fun s wr => ∃ u : List UInt8, s = .string ⟨u.toArray⟩ ∧ Hid (u ≠ []) ∧ Hid (digs u = true) ∧ Hid (trimLeftB u 48 = trimLeftB t 48) ∧ u.length ≤ 1000000 ∧ wr = wr0) (fun s _ => strSize s)
          case atStart => exact ⟨t, rfl, hut, HDT, Lib.hid rfl, hlt, rfl⟩
          case round =>
            obtain ⟨u, rfl, hu0, hud, hut2, hul, hw2⟩ := hrel
            obtain rfl : wr = wr0 := hw2
            have hsu := str_size u
            obtain ⟨d, u', rfl⟩ : ∃ d u', u = d :: u' := by
              cases u with
              | nil => exact absurd rfl hu0.out
              | cons d u' => exact ⟨d, u', rfl⟩
            have hg := head_get d u'
            have hcut := str_cut (d :: u') 1 _ rfl
            rw [List.drop_succ_cons, List.drop_zero] at hcut
            have HCUT := Lib.hid (show (⟨(d :: u').toArray⟩ : ByteArray).extract 1 (u'.length + 1) = ⟨u'.toArray⟩ from hcut)
            clear hcut hu0
            have hll : (d :: u').length = u'.length + 1 := rfl
            by_cases hd : d = 48
            · subst hd
              rw [trim_zero] at hut2
              by_cases hu1 : u' = []
              · subst hu1
                have HO4 := Lib.hid (HO2.out.trans (if_pos (hut2.out.symm.trans rfl)))
                go_wp2_with (first
                  | (go_at_call 31; refine (ref_neg_zero _).mono ?_; rintro e w' ⟨rfl, nn, rfl⟩))
                go_ret2
                exact ⟨by rw [HO4.out]; rfl, by first | exact Below.refl _ _ | exact below_drewN (Below.refl _ _) _⟩
              · have hu2 : 0 < u'.length := List.length_pos_iff.2 hu1
                have hu3 := Lib.hid hu1
                have hud2 := Lib.hid (digs_tail hud.out)
                clear hu1
                go_wp2_with fail
                go_roundw
                case rel => exact ⟨u', by rw [HCUT.out], hu3, hud2, hut2, by omega, by first | trivial | rfl⟩
                case measure => rw [HCUT.out, strSize_mk, strSize_mk]; omega
            · have hb : ((d.toNat : Int) == 48) = false := byte_ne hd
              rw [trim_other hd] at hut2
              have HO3 := Lib.hid (HO2.out.trans (if_neg (by rw [← hut2.out]; simp)))
              rw [← hut2.out] at HO3
              have HNEG := Lib.hid (fun w => ref_neg_digs d u' hud.out hd w hul)
              clear hd
              by_cases h200 : 200 < (d :: u').length
              · have HO4 := Lib.hid (HO3.out.trans (if_pos h200))
                have h200' : (200 : Int) < (u'.length : Int) + 1 := by omega
                go_wp2_with (first
                  | (go_at_call 31; refine (HNEG.out _).mono ?_; rintro e w' ⟨rfl, nn, rfl⟩))
                go_ret2
                exact ⟨by rw [HO4.out]; rfl, by first | exact Below.refl _ _ | exact below_drewN (Below.refl _ _) _⟩
              · have HO4 := Lib.hid (HO3.out.trans (if_neg h200))
                have h200' : ¬ (200 : Int) < (u'.length : Int) + 1 := by omega
                by_cases hu1 : u'.length = 0
                · go_wp2_with (first
                    | (go_at_call 31; refine (HNEG.out _).mono ?_; rintro e w' ⟨rfl, nn, rfl⟩))
                  go_ret2
                  exact ⟨by rw [HO4.out]; rfl, by first | exact Below.refl _ _ | exact below_drewN (Below.refl _ _) _⟩
                · have hu2 : 0 < u'.length := by omega
                  go_wp2_with (first
                    | (go_at_call 31; refine (HNEG.out _).mono ?_; rintro e w' ⟨rfl, nn, rfl⟩))
                  go_ret2
                  exact ⟨by rw [HO4.out]; rfl, by first | exact Below.refl _ _ | exact below_drewN (Below.refl _ _) _⟩

/-- The reference's Parse answers what Parse answers. -/
theorem ref_parse_n (l : List UInt8) (w : World) (hl : l.length ≤ 1000000) :
    Calls Tryz.prog 35 #[.string ⟨l.toArray⟩] w fun e w' => e = .returned (.tuple #[.string ⟨(parseOut l).1.toArray⟩, .int .i64 (parseOut l).2]) ∧ Below w.heap.size w w' := by
  cases l with
  | nil =>
    refine (ref_parse_empty w).mono ?_
    rintro e w' ⟨rfl, rfl⟩
    exact ⟨rfl, Below.refl _ _⟩
  | cons c r => exact ref_parse_some c r _ _ w hl rfl rfl _ (parseOut_of (by simp) rfl rfl)

end Go.Proofs.YtpjknkembghjcaaGreatDoor

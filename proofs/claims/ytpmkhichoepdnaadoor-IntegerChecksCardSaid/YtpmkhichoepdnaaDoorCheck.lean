/- integer.Check, and the reference's Canonical and Right. -/
import Derived.Test.YtpmkhichoepdnaaDoorRefParse
set_option linter.unusedVariables false
set_option linter.unusedSimpArgs false
namespace Go.Proofs.YtpmkhichoepdnaaDoor
open Go.RowKit Go.Lib Go.Proofs.YtpmkhichoepdnaaDoor.Dec Go.Proofs.YtpmkhichoepdnaaDoor.Mag Go.Proofs.YtpmkhichoepdnaaDoor.Chunk

/-- Digits without a needless zero ahead. -/
def canonT (neg : Bool) : List UInt8 → Bool
  | [] => false
  | d :: r => digs (d :: r) && !(d == 48 && (neg || decide (1 < (d :: r).length)))
theorem canonT_bad {neg : Bool} {t : List UInt8} (h : digs t = false) : canonT neg t = false := by
  cases t with
  | nil => rfl
  | cons d r => rw [canonT, h]; rfl
def rightB (l : List UInt8) : Bool := canonT (hasPrefix l [45]) (trimPrefix l [45]) && decide ((trimPrefix l [45]).length ≤ 200)

set_option maxHeartbeats 1000000 in
set_option maxRecDepth 100000 in
theorem canonical_n (l : List UInt8) (w : World) (hl : l.length ≤ 100000000) :
    Calls Tryd.prog 44 #[.string ⟨l.toArray⟩] w fun e w' => e = .returned (.bool (canonT (hasPrefix l [45]) (trimPrefix l [45]))) ∧ Below w.heap.size w w' := by
  have hS := Lib.hid (ref_split l w hl)
  have htl : (trimPrefix l [45]).length ≤ 100000000 := by
    unfold trimPrefix
    split
    · rw [List.length_drop]; omega
    · exact hl
  generalize hasPrefix l [45] = neg at *
  generalize trimPrefix l [45] = t at *
  have hst := str_size t
  go_enter Tryd.func44, Tryd.ntmps44
  go_wp2_with (go_at_call 39; refine hS.out.mono ?_; rintro e w1 ⟨rfl, hw1⟩; have h1 := below_dn hw1; refine Hid.out ?_)
  refine Lib.hid ?_
  clear hw1 hS
  go_wp2_with fail
  go_loopw [5] (fun i wr => ∃ k : Nat, i = .int .i64 k ∧ k ≤ t.length ∧ Hid (digs (t.take k) = true) ∧ wr = w1) (fun i _ => t.length - (intOf i).toNat)
  case atStart => exact ⟨0, rfl, Nat.zero_le _, Lib.hid rfl, rfl⟩
  case round =>
    obtain ⟨k, rfl, hk, hD, hw⟩ := hrel
    obtain rfl : wr = w1 := hw
    by_cases hkt : k < t.length
    · obtain ⟨b, hb⟩ : ∃ b, t[k] = b := ⟨_, rfl⟩
      have hget : ∀ h, (⟨t.toArray⟩ : ByteArray)[k]'h = b := fun h => (byte_at t k hkt h).trans hb
      by_cases h48 : b.toNat < 48
      · have h48' : (b.toNat : Int) < 48 := by omega
        have HO := Lib.hid (canonT_bad (neg := neg) (digs_no hkt (by rw [hb]; omega)))
        clear hb
        go_wp2_with fail
        go_ret
        exact ⟨by rw [HO.out]; rfl, h1⟩
      · have h48' : ¬ (b.toNat : Int) < 48 := by omega
        by_cases h57 : 57 < b.toNat
        · have h57' : 57 < (b.toNat : Int) := by omega
          have HO := Lib.hid (canonT_bad (neg := neg) (digs_no hkt (by rw [hb]; omega)))
          clear hb
          go_wp2_with fail
          go_ret
          exact ⟨by rw [HO.out]; rfl, h1⟩
        · have h57' : ¬ 57 < (b.toNat : Int) := by omega
          have hD2 := Lib.hid (show digs (t.take (k + 1)) = true by
            rw [digs_take_succ hkt, hD.out, hb]; simp; omega)
          clear hb
          go_wp2_with fail
          go_roundw
          case rel => exact ⟨k + 1, rfl, by omega, hD2, by first | trivial | rfl⟩
          case measure => simp [intOf]; omega
    · obtain rfl : k = t.length := by omega
      have hdt : digs t = true := by have := hD.out; rwa [List.take_length] at this
      have HDT := Lib.hid hdt
      clear hdt hD hk hkt
      cases t with
      | nil =>
        go_wp2_with fail
        go_ret
        exact ⟨rfl, h1⟩
      | cons d r =>
        have hg := head_get d r
        by_cases hd : d = 48
        · subst hd
          cases neg
          · by_cases hr : 0 < r.length
            · have hr' : 0 < (r.length : Int) := by omega
              have HO := Lib.hid (show canonT false (48 :: r) = false by
                have : 1 < (48 :: r).length := by show 1 < r.length + 1; omega
                rw [canonT, HDT.out]; simp [hr])
              go_wp2_with fail
              go_ret
              exact ⟨by rw [HO.out]; rfl, h1⟩
            · have hr0 : r.length = 0 := by omega
              have HO := Lib.hid (show canonT false (48 :: r) = true by
                rw [canonT, HDT.out]; simp [hr0])
              go_wp2_with fail
              go_ret
              exact ⟨by rw [HO.out]; rfl, h1⟩
          · have HO := Lib.hid (show canonT true (48 :: r) = false by rw [canonT, HDT.out]; simp)
            go_wp2_with fail
            go_ret
            exact ⟨by rw [HO.out]; rfl, h1⟩
        · have hb : ((d.toNat : Int) == 48) = false := byte_ne hd
          have HO := Lib.hid (show canonT neg (d :: r) = true by
            rw [canonT, HDT.out, show (d == 48) = false from beq_eq_false_iff_ne.2 hd]; rfl)
          go_wp2_with fail
          go_ret
          exact ⟨by rw [HO.out]; rfl, h1⟩

set_option maxHeartbeats 1000000 in
set_option maxRecDepth 100000 in
theorem right_n (l : List UInt8) (w : World) (hl : l.length ≤ 100000000) :
    Calls Tryd.prog 17 #[.string ⟨l.toArray⟩] w fun e w' => e = .returned (.bool (rightB l)) ∧ Below w.heap.size w w' := by
  have hC := fun w => canonical_n l w hl
  have hS := Lib.hid (ref_split l w hl)
  have hst := str_size (trimPrefix l [45])
  rw [rightB]
  generalize hasPrefix l [45] = neg at *
  generalize trimPrefix l [45] = t at *
  have HC := Lib.hid hC
  clear hC
  generalize canonT neg t = cn at *
  go_enter Tryd.func17, Tryd.ntmps17
  go_wp2_with (go_at_call 39; refine hS.out.mono ?_; rintro e w1 ⟨rfl, hw1⟩; have h1 := below_dn hw1; refine Hid.out ?_)
  refine Lib.hid ?_
  clear hw1 hS
  go_wp2_with (go_at_call 44; refine (HC.out _).mono ?_; rintro e w2 ⟨rfl, h2⟩; have h3 := h1.trans (h2.mono h1.size); refine Hid.out ?_)
  refine Lib.hid ?_
  cases cn
  · go_wp2_with fail
    go_ret
    exact ⟨rfl, h3⟩
  · by_cases h200 : t.length ≤ 200
    · have h200' : (t.length : Int) ≤ 200 := by omega
      go_wp2_with fail
      go_ret
      exact ⟨by simp [h200], h3⟩
    · have h200' : ¬ (t.length : Int) ≤ 200 := by omega
      go_wp2_with fail
      go_ret
      exact ⟨by simp [h200], h3⟩

theorem rightT_bad {neg : Bool} {t : List UInt8} (h : digs t = false) : (if (canonT neg t && decide (t.length ≤ 200)) = true then (0 : Int) else 2) = 2 := by
  rw [canonT_bad h]; rfl

set_option maxHeartbeats 2000000 in
set_option maxRecDepth 100000 in
theorem check_n (l : List UInt8) (w : World) (hl : l.length ≤ 100000000) :
    Calls Tryd.prog 19 #[.string ⟨l.toArray⟩] w fun e w' => e = .returned (.int .i64 (if rightB l then 0 else 2)) ∧ w' = w := by
  rw [rightB]
  have hC := Lib.hid (Tryd.strings_CutPrefix ⟨l.toArray⟩ ⟨#[45]⟩ w)
  have htl : (trimPrefix l [45]).length ≤ 100000000 := by
    unfold trimPrefix
    split
    · rw [List.length_drop]; omega
    · exact hl
  have hC2 : Calls Tryd.prog 29 #[.string ⟨l.toArray⟩, .string ⟨#[45]⟩] w fun e w' => e = .returned (.tuple #[.string ⟨(trimPrefix l [45]).toArray⟩, .bool (hasPrefix l [45])]) ∧ w' = w := hC.out
  have HC := Lib.hid hC2
  clear hC hC2
  generalize hasPrefix l [45] = neg at *
  generalize trimPrefix l [45] = t at *
  have hst := str_size t
  generalize hO : (if (canonT neg t && decide (t.length ≤ 200)) = true then (0 : Int) else 2) = O
  have HOO := Lib.hid hO
  clear hO
  cases t with
  | nil =>
    have HO := Lib.hid (HOO.out.symm.trans (show (if (canonT neg [] && decide (([] : List UInt8).length ≤ 200)) = true then (0 : Int) else 2) = 2 from rfl))
    rw [HO.out]
    go_enter Tryd.func19, Tryd.ntmps19
    go_wp2_with (go_at_call 29; refine HC.out.mono ?_; rintro e w1 ⟨rfl, rfl⟩)
    go_ret
    exact ⟨rfl, rfl⟩
  | cons d r =>
    have hg := head_get d r
    by_cases h200 : 200 < (d :: r).length
    · have h200' : (200 : Int) < (r.length : Int) + 1 := by have : (d :: r).length = r.length + 1 := rfl; omega
      have HO := Lib.hid (HOO.out.symm.trans (show (if (canonT neg (d :: r) && decide ((d :: r).length ≤ 200)) = true then (0 : Int) else 2) = 2 by
        rw [decide_eq_false (by omega), Bool.and_false]; rfl))
      rw [HO.out]
      clear h200
      go_enter Tryd.func19, Tryd.ntmps19
      go_wp2_with (go_at_call 29; refine HC.out.mono ?_; rintro e w1 ⟨rfl, rfl⟩)
      go_ret
      exact ⟨rfl, rfl⟩
    · have h200' : ¬ (200 : Int) < (r.length : Int) + 1 := by have : (d :: r).length = r.length + 1 := rfl; omega
      have hle := Lib.hid (show decide ((d :: r).length ≤ 200) = true from decide_eq_true (by omega))
      have hways : (d = 48 ∧ (neg = true ∨ 0 < r.length)) ∨ ((d ≠ 48 ∨ (neg = false ∧ r.length = 0))) := by
        by_cases h1 : d = 48
        · by_cases h2 : neg = true ∨ 0 < r.length
          · exact .inl ⟨h1, h2⟩
          · refine .inr (.inr ⟨by cases neg; rfl; exact absurd (.inl rfl) h2, by omega⟩)
        · exact .inr (.inl h1)
      clear h200
      rcases hways with ⟨rfl, h2⟩ | h2
      · have HO := Lib.hid (HOO.out.symm.trans (show (if (canonT neg (48 :: r) && decide ((48 :: r).length ≤ 200)) = true then (0 : Int) else 2) = 2 by
          have : canonT neg (48 :: r) = false := by
            rw [canonT]
            rcases h2 with rfl | h2
            · simp
            · have : decide (1 < (48 :: r).length) = true := decide_eq_true (by show 1 < r.length + 1; omega)
              rw [this]; simp
          rw [this]; rfl))
        rw [HO.out]
        by_cases hr : 0 < r.length
        · have hr' : 0 < (r.length : Int) := by omega
          clear h2
          go_enter Tryd.func19, Tryd.ntmps19
          go_wp2_with (go_at_call 29; refine HC.out.mono ?_; rintro e w1 ⟨rfl, rfl⟩)
          go_ret
          exact ⟨rfl, rfl⟩
        · have hr0 : r.length = 0 := by omega
          obtain rfl : neg = true := h2.resolve_right hr
          clear h2
          go_enter Tryd.func19, Tryd.ntmps19
          go_wp2_with (go_at_call 29; refine HC.out.mono ?_; rintro e w1 ⟨rfl, rfl⟩)
          go_ret
          exact ⟨rfl, rfl⟩
      · have HB := Lib.hid (fun h => HOO.out.symm.trans (rightT_bad (neg := neg) (t := d :: r) h))
        have HG := Lib.hid (show digs (d :: r) = true → O = 0 from fun h => HOO.out.symm.trans (by
          rw [hle.out, canonT, h]
          rcases h2 with h2 | ⟨rfl, h3⟩
          · rw [show (d == 48) = false from beq_eq_false_iff_ne.2 h2]; rfl
          · have : decide (1 < (d :: r).length) = false := decide_eq_false (by show ¬ 1 < r.length + 1; omega)
            rw [this]; simp))
        have hsplit : ((d.toNat : Int) == 48) = false ∨ (d = 48 ∧ neg = false ∧ r.length = 0) := by
          by_cases h1 : d = 48
          · exact .inr ⟨h1, h2.resolve_left (fun h => h h1)⟩
          · exact .inl (byte_ne h1)
        have hpos : 0 < (d :: r).length := by show 0 < r.length + 1; omega
        have h9 : ¬ (200 : Int) < ((d :: r).length : Int) := by show ¬ (200 : Int) < ((r.length + 1 : Nat) : Int); omega
        have htz : (d :: r == []) = false := rfl
        have hone : r.length = 0 → ¬ (1 : Int) < ((d :: r).length : Int) := fun h => by show ¬ (1 : Int) < ((r.length + 1 : Nat) : Int); omega
        clear h2 hle h200'
        rcases hsplit with hb | ⟨rfl, rfl, hr0⟩
        rotate_left
        have h1one := decide_eq_false (hone hr0)
        all_goals
          have h9d := decide_eq_false h9
          clear hone h9 HOO
          generalize _ :: r = t at *
          go_enter Tryd.func19, Tryd.ntmps19
          go_wp2_with (go_at_call 29; refine HC.out.mono ?_; rintro e w1 ⟨rfl, rfl⟩)
          clear hg
          go_loopw [33] (fun i wr => ∃ k : Nat, i = .int .i64 k ∧ k ≤ t.length ∧ Hid (digs (t.take k) = true) ∧ wr = w1) (fun i _ => t.length - (intOf i).toNat)
          case atStart => exact ⟨0, rfl, Nat.zero_le _, Lib.hid rfl, rfl⟩
          case round =>
            obtain ⟨k, rfl, hk, hD, hw⟩ := hrel
            obtain rfl : wr = w1 := hw
            by_cases hkt : k < t.length
            · obtain ⟨b, hbk⟩ : ∃ b, t[k] = b := ⟨_, rfl⟩
              have hget : ∀ h, (⟨t.toArray⟩ : ByteArray)[k]'h = b := fun h => (byte_at t k hkt h).trans hbk
              by_cases h48 : b.toNat < 48
              · have h48' : (b.toNat : Int) < 48 := by omega
                have HO := Lib.hid (HB.out (digs_no hkt (by rw [hbk]; omega)))
                clear hbk
                go_wp2_with fail
                go_ret
                exact ⟨by rw [HO.out]; rfl, rfl⟩
              · have h48' : ¬ (b.toNat : Int) < 48 := by omega
                by_cases h57 : 57 < b.toNat
                · have h57' : 57 < (b.toNat : Int) := by omega
                  have HO := Lib.hid (HB.out (digs_no hkt (by rw [hbk]; omega)))
                  clear hbk
                  go_wp2_with fail
                  go_ret
                  exact ⟨by rw [HO.out]; rfl, rfl⟩
                · have h57' : ¬ 57 < (b.toNat : Int) := by omega
                  have hD2 := Lib.hid (show digs (t.take (k + 1)) = true by
                    rw [digs_take_succ hkt, hD.out, hbk]; simp; omega)
                  clear hbk
                  go_wp2_with fail
                  go_roundw
                  case rel => exact ⟨k + 1, rfl, by omega, hD2, by first | trivial | rfl⟩
                  case measure => simp [intOf]; omega
            · obtain rfl : k = t.length := by omega
              have HO := Lib.hid (HG.out (by have := hD.out; rwa [List.take_length] at this))
              clear hD hk
              go_wp2_with fail
              go_ret
              exact ⟨by rw [HO.out]; rfl, rfl⟩

end Go.Proofs.YtpmkhichoepdnaaDoor

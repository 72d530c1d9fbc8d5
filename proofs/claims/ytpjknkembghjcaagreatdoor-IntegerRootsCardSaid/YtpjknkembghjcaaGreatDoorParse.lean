/- integer.Parse, integer.Small. -/
import Derived.Test.YtpjknkembghjcaaGreatDoorText
import Derived.Test.YtpjknkembghjcaaGreatDoorQuick
import Derived.Shelf.Strings.FuncGrows
set_option linter.unusedVariables false
set_option linter.unusedSimpArgs false
namespace Go.Proofs.YtpjknkembghjcaaGreatDoor
open Go.RowKit Go.Lib Go.Proofs.YtpjknkembghjcaaGreatDoor.Dec Go.Proofs.YtpjknkembghjcaaGreatDoor.Mag Go.Proofs.YtpjknkembghjcaaGreatDoor.Chunk

set_option maxHeartbeats 1000000 in
theorem parse_rune (x : Nat) (hx : x ≤ 1114111) (W : World) :
    Calls Tryz.prog 60 #[.int .i32 (x : Int)] W fun e w' => e = .returned (.bool (offDigit x)) ∧ w' = W := by
  by_cases h1 : x < 48
  · have h2 : (x : Int) < 48 := by omega
    have he : offDigit x = true := by simp [offDigit, h1]
    rw [he]
    go_enter Tryz.func60, Tryz.ntmps60
    go_wp2
    go_ret
    exact ⟨rfl, rfl⟩
  · have h2 : ¬ (x : Int) < 48 := by omega
    have he : offDigit x = decide (57 < (x : Int)) := by simp [offDigit, h1]; omega
    rw [he]
    go_enter Tryz.func60, Tryz.ntmps60
    go_wp2
    go_ret
    exact ⟨rfl, rfl⟩

theorem contains_n (t : List UInt8) (w : World) :
    Calls Tryz.prog 59 #[.string ⟨t.toArray⟩, .func (.func 60) #[] #[]] w fun e w' => e = .returned (.bool (!digs t)) ∧ Below w.heap.size w w' := by
  have h := Tryz.strings_ContainsFunc_grows 60 #[] (enters_of Tryz.func60 (by kernel_rfl) rfl) offDigit ⟨t.toArray⟩ w (fun W x hx hb => (parse_rune x hx W).mono fun e w' ⟨he, hw⟩ => ⟨he, hw ▸ Below.refl _ _⟩)
  rw [idx_all] at h
  exact h

theorem parseOut_of {l t : List UInt8} {neg : Bool} (h0 : l ≠ []) (hn : hasPrefix l [45] = neg) (ht : (if neg then trimPrefix l [45] else trimPrefix l [43]) = t) :
    parseOut l = if t = [] ∨ digs t = false then ([], 15) else if trimLeftB t 48 = [] then ([48], 0) else if 200 < (trimLeftB t 48).length then ([], 4) else (signed neg (trimLeftB t 48), 0) := by
  subst hn ht
  rw [parseOut, if_neg h0]

set_option maxHeartbeats 1000000 in
set_option maxRecDepth 100000 in
theorem parse_empty (w : World) :
    Calls Tryz.prog 33 #[.string ⟨#[]⟩] w fun e w' => e = .returned (.tuple #[.string ⟨#[]⟩, .int .i64 13]) ∧ w' = w := by
  go_enter Tryz.func33, Tryz.ntmps33
  go_wp2
  go_ret2
  exact ⟨rfl, rfl⟩

set_option maxHeartbeats 2000000 in
set_option maxRecDepth 100000 in
theorem parse_some (neg : Bool) (l t : List UInt8) (w : World) (hl : l.length ≤ 1000000) (h0 : l ≠ []) (hn : hasPrefix l [45] = neg) (ht : (if neg then trimPrefix l [45] else trimPrefix l [43]) = t) :
    Calls Tryz.prog 33 #[.string ⟨l.toArray⟩] w fun e w' => e = .returned (.tuple #[.string ⟨(parseOut l).1.toArray⟩, .int .i64 (parseOut l).2]) ∧ Below w.heap.size w w' := by
  have hz : (l == []) = false := by rw [beq_eq_false_iff_ne]; exact h0
  have HO := Lib.hid (parseOut_of h0 hn ht)
  obtain ⟨u, hu⟩ : ∃ u, trimLeftB t 48 = u := ⟨_, rfl⟩
  rw [hu] at HO
  by_cases ht0 : t = []
  · subst ht0
    have HO2 := Lib.hid (HO.out.trans (if_pos (.inl rfl)))
    cases neg
    all_goals
      simp only [if_true, if_false, Bool.false_eq_true] at ht
      rw [HO2.out]
      go_enter Tryz.func33, Tryz.ntmps33
      go_wp2_with (first
        | (go_at_call 58; refine (Tryz.strings_CutPrefix _ _ _).mono ?_; rintro e w' ⟨rfl, rfl⟩; simp only [hn, ht])
        | (go_at_call 56; refine (Tryz.strings_TrimPrefix _ _ _).mono ?_; rintro e w' ⟨rfl, rfl⟩; simp only [ht])
        | (go_at_call 59; refine (contains_n t _).mono ?_; rintro e w3 ⟨rfl, hb⟩; rw [hdg])
        | (go_at_call 61; refine (Tryz.strings_TrimLeft_one _ 48 (by decide) _).mono ?_; rintro e w4 ⟨rfl, rfl⟩; simp only [hu]))
      go_ret2
      exact ⟨rfl, Below.refl _ _⟩
  · have htz : (t == []) = false := by rw [beq_eq_false_iff_ne]; exact ht0
    cases hdg : digs t
    · have HO2 := Lib.hid (HO.out.trans (if_pos (.inr hdg)))
      cases neg
      all_goals
        simp only [if_true, if_false, Bool.false_eq_true] at ht
        rw [HO2.out]
        go_enter Tryz.func33, Tryz.ntmps33
        go_wp2_with (first
          | (go_at_call 58; refine (Tryz.strings_CutPrefix _ _ _).mono ?_; rintro e w' ⟨rfl, rfl⟩; simp only [hn, ht])
          | (go_at_call 56; refine (Tryz.strings_TrimPrefix _ _ _).mono ?_; rintro e w' ⟨rfl, rfl⟩; simp only [ht])
          | (go_at_call 59; refine (contains_n t _).mono ?_; rintro e w3 ⟨rfl, hb⟩; rw [hdg])
          | (go_at_call 61; refine (Tryz.strings_TrimLeft_one _ 48 (by decide) _).mono ?_; rintro e w4 ⟨rfl, rfl⟩; simp only [hu]))
        go_ret2
        exact ⟨rfl, hb⟩
    · have HO2 := Lib.hid (HO.out.trans (if_neg (by rintro (h | h); exact ht0 h; rw [hdg] at h; cases h)))
      by_cases hu0 : u = []
      · subst hu0
        have HO3 := Lib.hid (HO2.out.trans (if_pos rfl))
        cases neg
        all_goals
          simp only [if_true, if_false, Bool.false_eq_true] at ht
          rw [HO3.out]
          go_enter Tryz.func33, Tryz.ntmps33
          go_wp2_with (first
            | (go_at_call 58; refine (Tryz.strings_CutPrefix _ _ _).mono ?_; rintro e w' ⟨rfl, rfl⟩; simp only [hn, ht])
            | (go_at_call 56; refine (Tryz.strings_TrimPrefix _ _ _).mono ?_; rintro e w' ⟨rfl, rfl⟩; simp only [ht])
            | (go_at_call 59; refine (contains_n t _).mono ?_; rintro e w3 ⟨rfl, hb⟩; rw [hdg])
            | (go_at_call 61; refine (Tryz.strings_TrimLeft_one _ 48 (by decide) _).mono ?_; rintro e w4 ⟨rfl, rfl⟩; simp only [hu]))
          go_ret2
          exact ⟨rfl, hb⟩
      · have huz : (u == []) = false := by rw [beq_eq_false_iff_ne]; exact hu0
        have HO3 := Lib.hid (HO2.out.trans (if_neg hu0))
        have hsu := str_size u
        by_cases hlu : 200 < u.length
        · have HO4 := Lib.hid (HO3.out.trans (if_pos hlu))
          have hlu' : (200 : Int) < (u.length : Int) := by omega
          cases neg
          all_goals
            simp only [if_true, if_false, Bool.false_eq_true] at ht
            rw [HO4.out]
            go_enter Tryz.func33, Tryz.ntmps33
            go_wp2_with (first
              | (go_at_call 58; refine (Tryz.strings_CutPrefix _ _ _).mono ?_; rintro e w' ⟨rfl, rfl⟩; simp only [hn, ht])
              | (go_at_call 56; refine (Tryz.strings_TrimPrefix _ _ _).mono ?_; rintro e w' ⟨rfl, rfl⟩; simp only [ht])
              | (go_at_call 59; refine (contains_n t _).mono ?_; rintro e w3 ⟨rfl, hb⟩; rw [hdg])
              | (go_at_call 61; refine (Tryz.strings_TrimLeft_one _ 48 (by decide) _).mono ?_; rintro e w4 ⟨rfl, rfl⟩; simp only [hu]))
            go_ret2
            exact ⟨rfl, hb⟩
        · have HO4 := Lib.hid (HO3.out.trans (if_neg hlu))
          have hlu' : ¬ (200 : Int) < (u.length : Int) := by omega
          cases neg
          all_goals
            simp only [if_true, if_false, Bool.false_eq_true] at ht
            rw [HO4.out]
            go_enter Tryz.func33, Tryz.ntmps33
            go_wp2_with (first
              | (go_at_call 58; refine (Tryz.strings_CutPrefix _ _ _).mono ?_; rintro e w' ⟨rfl, rfl⟩; simp only [hn, ht])
              | (go_at_call 56; refine (Tryz.strings_TrimPrefix _ _ _).mono ?_; rintro e w' ⟨rfl, rfl⟩; simp only [ht])
              | (go_at_call 59; refine (contains_n t _).mono ?_; rintro e w3 ⟨rfl, hb⟩; rw [hdg])
              | (go_at_call 61; refine (Tryz.strings_TrimLeft_one _ 48 (by decide) _).mono ?_; rintro e w4 ⟨rfl, rfl⟩; simp only [hu]))
            go_ret2
            exact ⟨rfl, hb⟩

/-- Parse, whatever the text. -/
theorem parse_n (l : List UInt8) (w : World) (hl : l.length ≤ 1000000) :
    Calls Tryz.prog 33 #[.string ⟨l.toArray⟩] w fun e w' => e = .returned (.tuple #[.string ⟨(parseOut l).1.toArray⟩, .int .i64 (parseOut l).2]) ∧ Below w.heap.size w w' := by
  by_cases h0 : l = []
  · subst h0
    refine (parse_empty w).mono ?_
    rintro e w' ⟨rfl, rfl⟩
    exact ⟨rfl, Below.refl _ _⟩
  · exact parse_some _ l _ w hl h0 rfl rfl

end Go.Proofs.YtpjknkembghjcaaGreatDoor

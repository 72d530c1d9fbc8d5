/- Plain facts: the integer that a text writes; a text's runes are digits exactly if its bytes are. No program in sight. -/
import Derived.Test.YtpjknkembghjcaaGreatDoorInt
import Derived.Test.YtpjknkembghjcaaGreatDoorOpen
import Derived.Lib.TrimByte
import Derived.Laws.RangeString
import Derived.Laws.RangeAny
import Derived.Shelf.GgClosure.StringsIndexFunc
set_option linter.unusedVariables false
namespace Go.Proofs.YtpjknkembghjcaaGreatDoor
open Go.Lib Go.Proofs.YtpjknkembghjcaaGreatDoor.Dec Go.Proofs.YtpjknkembghjcaaGreatDoor.Mag

/-- Whether all bytes are digits. -/
def digs (t : List UInt8) : Bool := t.all fun c => decide (48 ≤ c.toNat) && decide (c.toNat ≤ 57)
theorem digs_iff {t : List UInt8} : digs t = true ↔ AllDig t := by
  simp [digs, AllDig, List.all_eq_true]
theorem digs_cons (c : UInt8) (t : List UInt8) : digs (c :: t) = (decide (48 ≤ c.toNat) && decide (c.toNat ≤ 57) && digs t) := rfl

/-- What Parse answers to a text: the bytes of the integer, and the number of the error. -/
def parseOut (s : List UInt8) : List UInt8 × Int :=
  if s = [] then ([], 13) else
    let t := if hasPrefix s [45] then trimPrefix s [45] else trimPrefix s [43]
    if t = [] ∨ digs t = false then ([], 15) else
      let u := trimLeftB t 48
      if u = [] then ([48], 0) else if 200 < u.length then ([], 4) else (signed (hasPrefix s [45]) u, 0)

/-- The test of a rune for not being a digit. -/
def offDigit (r : Nat) : Bool := decide (r < 48) || decide (57 < r)

theorem idx_digs (s : ByteArray) : ∀ (f pos : Nat), s.size ≤ pos + f → decide (0 ≤ idxFuncFrom offDigit true s f pos) = !digs (s.data.toList.drop pos) := by
  intro f
  induction f with
  | zero =>
    intro pos h
    rw [idxFuncFrom_end _ _ _ _ _ (by omega), List.drop_of_length_le (by rw [Array.length_toList]; exact h)]
    rfl
  | succ f ih =>
    intro pos h
    by_cases hp : pos < s.size
    · have hl : pos < s.data.toList.length := by rw [Array.length_toList]; exact hp
      have hget : s.data.toList[pos] = s[pos]'hp := by rw [Array.getElem_toList]; rfl
      rw [List.drop_eq_getElem_cons hl, digs_cons, hget, idxFuncFrom, if_pos hp]
      by_cases ha : (s[pos]'hp).toNat < 128
      · rw [decode_ascii s pos hp ha]
        by_cases hd : 48 ≤ (s[pos]'hp).toNat ∧ (s[pos]'hp).toNat ≤ 57
        · have h1 : ¬ offDigit (s[pos]'hp).toNat = true := by simp [offDigit]; omega
          rw [if_neg h1, ih (pos + 1) (by omega)]
          simp [hd.1, hd.2]
        · have h1 : offDigit (s[pos]'hp).toNat = true := by simp [offDigit]; omega
          rw [if_pos h1]
          have h2 : (decide (48 ≤ (s[pos]'hp).toNat) && decide ((s[pos]'hp).toNat ≤ 57)) = false := by
            rw [Bool.and_eq_false_iff]; simp; omega
          rw [h2]
          simp
      · obtain ⟨h1, h2⟩ := decode_high s pos hp (by omega)
        have h3 : offDigit (Utf8.decode s pos).1 = true := by simp [offDigit]; omega
        rw [if_pos h3]
        have h4 : (decide (48 ≤ (s[pos]'hp).toNat) && decide ((s[pos]'hp).toNat ≤ 57)) = false := by
          rw [Bool.and_eq_false_iff]; simp; omega
        rw [h4]
        simp
    · rw [idxFuncFrom_end _ _ _ _ _ hp, List.drop_of_length_le (by rw [Array.length_toList]; exact (show s.size ≤ pos by omega))]
      rfl
theorem idx_all (l : List UInt8) : decide (0 ≤ idxFunc offDigit true ⟨l.toArray⟩) = !digs l := by
  have := idx_digs ⟨l.toArray⟩ (⟨l.toArray⟩ : ByteArray).size 0 (by omega)
  rw [List.drop_zero] at this
  exact this

end Go.Proofs.YtpjknkembghjcaaGreatDoor

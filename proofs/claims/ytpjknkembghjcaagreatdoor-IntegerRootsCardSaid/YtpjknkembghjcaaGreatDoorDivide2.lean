/- integer.divide by a divisor of one piece. -/
import Derived.Test.YtpjknkembghjcaaGreatDoorSmall
import Derived.Test.YtpjknkembghjcaaGreatDoorBackward
namespace Go.Proofs.YtpjknkembghjcaaGreatDoor
open Go.RowKit Mag Go.Shelf

attribute [local go_sem] Oper.semAt_some

/-- One step of the division by one piece. -/
def dstep (b0 : Int) {n : Nat} (s : List Int × Int) (x : Pc n) : List Int × Int :=
  (s.1.set x.1.1 ((s.2 * 1000000000 + x.1.2) / b0), (s.2 * 1000000000 + x.1.2) % b0)
def dst (b0 : Int) {n : Nat} (pre : List (Pc n)) : List Int × Int := pre.foldl (dstep b0) (List.replicate n 0, 0)
theorem dst_snoc (b0 : Int) {n : Nat} (pre : List (Pc n)) (x : Pc n) : dst b0 (pre ++ [x]) = dstep b0 (dst b0 pre) x := by simp [dst]
theorem dst_inv {b0 : Int} (h0 : 0 < b0) (h1 : b0 < 1000000000) {n : Nat} (pre : List (Pc n)) : (dst b0 pre).1.length = n ∧ Pcs 1000000000 (dst b0 pre).1 ∧ 0 ≤ (dst b0 pre).2 ∧ (dst b0 pre).2 < b0 := by
  have key : ∀ (k : Nat) (pre : List (Pc n)), pre.length = k → (dst b0 pre).1.length = n ∧ Pcs 1000000000 (dst b0 pre).1 ∧ 0 ≤ (dst b0 pre).2 ∧ (dst b0 pre).2 < b0 := by
    intro k
    induction k with
    | zero =>
      intro pre hp
      obtain rfl : pre = [] := List.length_eq_zero_iff.1 hp
      exact ⟨by simp [dst], Pcs.zeros (by omega) _, Int.le_refl _, h0⟩
    | succ k ih =>
      intro pre hp
      have hne : pre ≠ [] := fun e => by rw [e] at hp; simp at hp
      obtain ⟨r, d, rfl⟩ : ∃ r d, pre = r ++ [d] := ⟨pre.dropLast, pre.getLast hne, (List.dropLast_concat_getLast hne).symm⟩
      obtain ⟨a1, a2, a3, a4⟩ := ih r (by simpa using hp)
      rw [dst_snoc]
      obtain ⟨p, p1, p2, p3⟩ := d
      have hq : (dst b0 r).2 * 1000000000 + p.2 < b0 * 1000000000 := by
        have : (dst b0 r).2 * 1000000000 ≤ (b0 - 1) * 1000000000 := Int.mul_le_mul_of_nonneg_right (by omega) (by omega)
        rw [Int.sub_mul] at this
        omega
      have q0 : 0 ≤ ((dst b0 r).2 * 1000000000 + p.2) / b0 := Int.ediv_nonneg (by omega) (by omega)
      have q1 : ((dst b0 r).2 * 1000000000 + p.2) / b0 < 1000000000 := Int.ediv_lt_of_lt_mul h0 (by rw [Int.mul_comm 1000000000]; exact hq)
      exact ⟨by simp [dstep, a1], a2.set _ ⟨q0, q1⟩, Int.emod_nonneg _ (by omega), Int.emod_lt_of_pos _ h0⟩
  exact key _ pre rfl

/-- After k rounds: quotient and remainder of the last k pieces. -/
theorem dst_val {b0 : Int} (h0 : 0 < b0) (h1 : b0 < 1000000000) (xs : List Int) (hp : Pcs 1000000000 xs) (k : Nat) (hk : k ≤ xs.length) :
    pv 1000000000 ((dst b0 (downs xs hp k hk)).1.drop (xs.length - k)) * b0 + (dst b0 (downs xs hp k hk)).2 = pv 1000000000 (xs.drop (xs.length - k)) := by
  induction k with
  | zero => simp [downs, dst, pv]
  | succ k ih =>
    have ih := ih (by omega)
    obtain ⟨a1, a2, a3, a4⟩ := dst_inv h0 h1 (downs xs hp k (by omega))
    rw [downs, dst_snoc]
    generalize dst b0 (downs xs hp k _) = s at *
    obtain ⟨q, r⟩ := s
    simp only at ih a1 a2 a3 a4
    simp only [dstep]
    have e1 : xs.length - (k + 1) = xs.length - 1 - k := by omega
    obtain ⟨m, hm⟩ : ∃ m, xs.length - 1 - k = m := ⟨_, rfl⟩
    have e2 : xs.length - k = m + 1 := by omega
    rw [e1, hm]
    rw [e2] at ih
    rw [pv_drop_pred _ xs m (by omega), ← ih, pv_drop_pred _ (q.set m _) m (by simp; omega), List.drop_set_of_lt (by omega)]
    have e3 : (q.set m ((r * 1000000000 + xs.getD m 0) / b0)).getD m 0 = (r * 1000000000 + xs.getD m 0) / b0 := by
      rw [List.getD_eq_getElem?_getD, List.getElem?_set_self (by omega)]; rfl
    rw [e3]
    have e4 := Int.mul_ediv_add_emod (r * 1000000000 + xs.getD m 0) b0
    generalize (r * 1000000000 + xs.getD m 0) / b0 = dq at *
    generalize (r * 1000000000 + xs.getD m 0) % b0 = dr at *
    generalize pv 1000000000 (List.drop (m + 1) q) = P at *
    grind

theorem dst_end {b0 : Int} (h0 : 0 < b0) (h1 : b0 < 1000000000) (xs : List Int) (hp : Pcs 1000000000 xs) :
    pv 1000000000 (dst b0 (downs xs hp xs.length (Nat.le_refl _))).1 = pv 1000000000 xs / b0 ∧ (dst b0 (downs xs hp xs.length (Nat.le_refl _))).2 = pv 1000000000 xs % b0 := by
  have h := dst_val h0 h1 xs hp xs.length (Nat.le_refl _)
  obtain ⟨a1, a2, a3, a4⟩ := dst_inv h0 h1 (downs xs hp xs.length (Nat.le_refl _))
  rw [Nat.sub_self, List.drop_zero, List.drop_zero] at h
  generalize dst b0 (downs xs hp xs.length (Nat.le_refl _)) = s at *
  rw [← h]
  constructor
  · rw [Int.add_comm, Int.add_mul_ediv_right _ _ (by omega), Int.ediv_eq_zero_of_lt a3 a4]; omega
  · rw [Int.add_comm, Int.add_mul_emod_self_right, Int.emod_eq_of_lt a3 a4]

end Go.Proofs.YtpjknkembghjcaaGreatDoor

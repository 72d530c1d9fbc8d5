/- Plain facts about decimal digits: the value of a list of digits, canonical numerals, padding. No program in sight. -/
import Derived.Lib.ItoaNum
import Derived.Lib.ItoaLen
set_option linter.unusedVariables false
namespace Go.Proofs.YtpjknkembghjcaaGreatDoor.Dec
open Go.Lib

/-- The value of digits. -/
def dval (l : List UInt8) : Nat := l.foldl (fun a c => a * 10 + (c.toNat - 48)) 0
def AllDig (l : List UInt8) : Prop := ∀ c ∈ l, 48 ≤ c.toNat ∧ c.toNat ≤ 57

theorem dval_nil : dval [] = 0 := rfl
theorem dval_snoc (l : List UInt8) (c : UInt8) : dval (l ++ [c]) = dval l * 10 + (c.toNat - 48) := by simp [dval]
theorem foldl_from (l : List UInt8) (a : Nat) : l.foldl (fun a c => a * 10 + (c.toNat - 48)) a = a * 10 ^ l.length + dval l := by
  induction l generalizing a with
  | nil => simp [dval]
  | cons c l ih =>
    simp only [List.foldl_cons, dval, List.length_cons]
    rw [ih, ih (0 * 10 + (c.toNat - 48)), Nat.pow_succ, Nat.add_mul, Nat.add_mul, Nat.mul_assoc, Nat.mul_comm 10]
    omega
theorem dval_append (l m : List UInt8) : dval (l ++ m) = dval l * 10 ^ m.length + dval m := by
  rw [dval, List.foldl_append, foldl_from]; rfl
theorem dval_cons (c : UInt8) (l : List UInt8) : dval (c :: l) = (c.toNat - 48) * 10 ^ l.length + dval l := by
  rw [show c :: l = [c] ++ l from rfl, dval_append]
  simp [dval]
theorem dval_one (c : UInt8) : dval [c] = c.toNat - 48 := by simp [dval]

theorem AllDig.nil : AllDig [] := fun _ h => by cases h
theorem AllDig.cons {c : UInt8} {l : List UInt8} (hc : 48 ≤ c.toNat ∧ c.toNat ≤ 57) (h : AllDig l) : AllDig (c :: l) := fun d hd => by
  rcases List.mem_cons.1 hd with rfl | hd
  · exact hc
  · exact h d hd
theorem AllDig.append {l m : List UInt8} (h : AllDig l) (k : AllDig m) : AllDig (l ++ m) := fun c hc => by
  rcases List.mem_append.1 hc with hc | hc
  · exact h c hc
  · exact k c hc
theorem AllDig.left {l m : List UInt8} (h : AllDig (l ++ m)) : AllDig l := fun c hc => h c (List.mem_append_left _ hc)
theorem AllDig.right {l m : List UInt8} (h : AllDig (l ++ m)) : AllDig m := fun c hc => h c (List.mem_append_right _ hc)
theorem AllDig.take {l : List UInt8} (h : AllDig l) (k : Nat) : AllDig (l.take k) := fun c hc => h c (List.mem_of_mem_take hc)
theorem AllDig.drop {l : List UInt8} (h : AllDig l) (k : Nat) : AllDig (l.drop k) := fun c hc => h c (List.mem_of_mem_drop hc)
theorem AllDig.tail {c : UInt8} {l : List UInt8} (h : AllDig (c :: l)) : AllDig l := fun d hd => h d (List.mem_cons_of_mem _ hd)
theorem AllDig.head {c : UInt8} {l : List UInt8} (h : AllDig (c :: l)) : 48 ≤ c.toNat ∧ c.toNat ≤ 57 := h c List.mem_cons_self
theorem AllDig.reps (k : Nat) : AllDig (List.replicate k 48) := fun c hc => by
  rw [List.eq_of_mem_replicate hc]; decide

theorem dval_lt {l : List UInt8} (h : AllDig l) : dval l < 10 ^ l.length := by
  induction l with
  | nil => simp [dval]
  | cons c l ih =>
    rw [dval_cons, List.length_cons, Nat.pow_succ]
    have h1 := ih h.tail
    have h2 := h.head
    have h3 : (c.toNat - 48) * 10 ^ l.length ≤ 9 * 10 ^ l.length := Nat.mul_le_mul_right _ (by omega)
    omega
theorem dval_reps (k : Nat) : dval (List.replicate k 48) = 0 := by
  induction k with
  | zero => rfl
  | succ k ih => rw [List.replicate_succ, dval_cons, ih]; simp
theorem dval_pos {c : UInt8} {l : List UInt8} (h : 49 ≤ c.toNat) : 10 ^ l.length ≤ dval (c :: l) := by
  rw [dval_cons]
  have : 1 * 10 ^ l.length ≤ (c.toNat - 48) * 10 ^ l.length := Nat.mul_le_mul_right _ (by omega)
  omega

/-- Digits of one length are told by their value. -/
theorem dval_inj {l m : List UInt8} (hl : AllDig l) (hm : AllDig m) (hn : l.length = m.length) (hv : dval l = dval m) : l = m := by
  induction l generalizing m with
  | nil => cases m with
    | nil => rfl
    | cons _ _ => simp at hn
  | cons c l ih =>
    cases m with
    | nil => simp at hn
    | cons d m =>
      have hn' : l.length = m.length := by simpa using hn
      rw [dval_cons, dval_cons, hn'] at hv
      have a := dval_lt hl.tail
      have b := dval_lt hm.tail
      rw [hn'] at a
      have hc := hl.head
      have hd := hm.head
      have hp : 0 < 10 ^ m.length := Nat.pow_pos (by decide)
      have e : (c.toNat - 48 : Nat) = d.toNat - 48 := by
        have e1 : ((c.toNat - 48) * 10 ^ m.length + dval l) / 10 ^ m.length = c.toNat - 48 := by
          rw [Nat.add_comm, Nat.add_mul_div_right _ _ hp, Nat.div_eq_of_lt a]; omega
        have e2 : ((d.toNat - 48) * 10 ^ m.length + dval m) / 10 ^ m.length = d.toNat - 48 := by
          rw [Nat.add_comm, Nat.add_mul_div_right _ _ hp, Nat.div_eq_of_lt b]; omega
        rw [← e1, ← e2, hv]
      have e' : c = d := UInt8.toNat_inj.1 (by omega)
      subst e'
      rw [ih hl.tail hm.tail hn' (by omega)]

/-! ### decDigits -/
theorem dig_toNat {k : Nat} (h : k < 10) : (UInt8.ofNat (48 + k)).toNat = 48 + k := by
  rw [UInt8.toNat_ofNat']; omega
theorem dec_small {u : Nat} (h : u < 10) : decDigits u = [UInt8.ofNat (48 + u)] := by rw [decDigits, dif_pos h]
theorem dec_big {u : Nat} (h : ¬ u < 10) : decDigits u = decDigits (u / 10) ++ [UInt8.ofNat (48 + u % 10)] := by rw [decDigits, dif_neg h]
theorem dec_ne (u : Nat) : decDigits u ≠ [] := by
  by_cases h : u < 10
  · rw [dec_small h]; simp
  · rw [dec_big h]; simp
theorem dec_all (u : Nat) : AllDig (decDigits u) := by
  induction u using Nat.strongRecOn with
  | _ u ih =>
    by_cases h : u < 10
    · rw [dec_small h]
      exact AllDig.cons (by rw [dig_toNat h]; omega) AllDig.nil
    · rw [dec_big h]
      have hm : u % 10 < 10 := Nat.mod_lt _ (by decide)
      exact (ih (u / 10) (by omega)).append (AllDig.cons (by rw [dig_toNat hm]; omega) AllDig.nil)
theorem dval_dec (u : Nat) : dval (decDigits u) = u := by
  induction u using Nat.strongRecOn with
  | _ u ih =>
    by_cases h : u < 10
    · rw [dec_small h, dval_one, dig_toNat h]; omega
    · have hm : u % 10 < 10 := Nat.mod_lt _ (by decide)
      rw [dec_big h, dval_snoc, ih (u / 10) (by omega), dig_toNat hm]; omega
theorem dec_head (u : Nat) (h : u ≠ 0) : ∃ c l, decDigits u = c :: l ∧ 49 ≤ c.toNat ∧ c.toNat ≤ 57 := by
  induction u using Nat.strongRecOn with
  | _ u ih =>
    by_cases h' : u < 10
    · exact ⟨_, [], dec_small h', by rw [dig_toNat h']; omega, by rw [dig_toNat h']; omega⟩
    · obtain ⟨c, l, e, h1, h2⟩ := ih (u / 10) (by omega) (by omega)
      exact ⟨c, l ++ [UInt8.ofNat (48 + u % 10)], by rw [dec_big h', e]; rfl, h1, h2⟩
theorem dec_zero : decDigits 0 = [48] := by rw [dec_small (by decide)]; rfl
theorem dec_one : decDigits 1 = [49] := by rw [dec_small (by decide)]; rfl
/-- Digits without a zero ahead are the numeral of their value. -/
theorem dec_dval {c : UInt8} {l : List UInt8} (h : AllDig (c :: l)) (h0 : l = [] ∨ c ≠ 48) : decDigits (dval (c :: l)) = c :: l := by
  have key : ∀ n : Nat, ∀ m : List UInt8, m.length = n → AllDig m → (∀ c r, m = c :: r → r = [] ∨ c ≠ 48) → m ≠ [] → decDigits (dval m) = m := by
    intro n
    induction n with
    | zero => intro m hm _ _ hne; exact absurd (List.length_eq_zero_iff.1 hm) hne
    | succ n ih =>
      intro m hm ha hz hne
      obtain ⟨r, d, rfl⟩ : ∃ r d, m = r ++ [d] := ⟨m.dropLast, m.getLast hne, (List.dropLast_concat_getLast hne).symm⟩
      have hd : 48 ≤ d.toNat ∧ d.toNat ≤ 57 := ha d (by simp)
      cases r with
      | nil =>
        simp only [List.nil_append, dval_one]
        rw [dec_small (by omega)]
        congr 1
        exact UInt8.toNat_inj.1 (by rw [dig_toNat (by omega)]; omega)
      | cons c r =>
        have hc : c ≠ 48 := by
          rcases hz c (r ++ [d]) rfl with h | h
          · simp at h
          · exact h
        have hr := ih (c :: r) (by simpa using hm) ha.left (fun c' r' e => by cases e; exact .inr hc) (by simp)
        have h49 : 49 ≤ c.toNat := by
          have h1 := ha.left.head
          have : c.toNat ≠ 48 := fun e => hc (UInt8.toNat_inj.1 e)
          omega
        have hp := dval_pos (l := r) h49
        have hp' : 0 < 10 ^ r.length := Nat.pow_pos (by decide)
        rw [dval_snoc, dec_big (by omega), show (dval (c :: r) * 10 + (d.toNat - 48)) / 10 = dval (c :: r) by omega, hr]
        congr 2
        exact UInt8.toNat_inj.1 (by rw [dig_toNat (by omega)]; omega)
  exact key _ _ rfl h (fun c' r' e => by cases e; exact h0) (by simp)
theorem dec_inj {u v : Nat} (h : decDigits u = decDigits v) : u = v := by rw [← dval_dec u, h, dval_dec]
theorem dec_len_pos (u : Nat) : 1 ≤ (decDigits u).length := by rw [decDigits_length]; exact nDigits_pos u
theorem lt_pow_dec (u : Nat) : u < 10 ^ (decDigits u).length := by
  have := dval_lt (dec_all u); rwa [dval_dec] at this
theorem pow_le_dec {u : Nat} (h : u ≠ 0) : 10 ^ ((decDigits u).length - 1) ≤ u := by
  obtain ⟨c, l, e, h1, h2⟩ := dec_head u h
  have := dval_pos (l := l) h1
  rw [← e, dval_dec] at this
  rw [e]; simpa using this
theorem dec_len_le {u k : Nat} (hk : 1 ≤ k) (h : u < 10 ^ k) : (decDigits u).length ≤ k := by
  by_cases h0 : u = 0
  · subst h0; rw [dec_zero]; exact hk
  · have := pow_le_dec h0
    have h2 : 10 ^ ((decDigits u).length - 1) < 10 ^ k := by omega
    have := (Nat.pow_lt_pow_iff_right (by decide : 1 < 10)).1 h2
    omega
theorem dec_len_lt {u k : Nat} (h : k < (decDigits u).length) (hk : 1 ≤ k) : 10 ^ k ≤ u := by
  rcases Nat.lt_or_ge u (10 ^ k) with h1 | h1
  · have := dec_len_le hk h1; omega
  · exact h1
theorem dec_len_mono {u v : Nat} (h : u ≤ v) : (decDigits u).length ≤ (decDigits v).length :=
  dec_len_le (dec_len_pos v) (Nat.lt_of_le_of_lt h (lt_pow_dec v))

/-! ### padding -/
/-- The last k digits of m. -/
def pad : Nat → Nat → List UInt8
  | 0, _ => []
  | k + 1, m => pad k (m / 10) ++ [UInt8.ofNat (48 + m % 10)]
theorem pad_length (k m : Nat) : (pad k m).length = k := by
  induction k generalizing m with
  | zero => rfl
  | succ k ih => simp [pad, ih]
theorem pad_all (k m : Nat) : AllDig (pad k m) := by
  induction k generalizing m with
  | zero => exact AllDig.nil
  | succ k ih => exact (ih _).append (AllDig.cons (by rw [dig_toNat (Nat.mod_lt _ (by decide))]; omega) AllDig.nil)
theorem dval_pad (k m : Nat) : dval (pad k m) = m % 10 ^ k := by
  induction k generalizing m with
  | zero => simp [pad, dval, Nat.mod_one]
  | succ k ih =>
    rw [pad, dval_snoc, ih, dig_toNat (Nat.mod_lt _ (by decide)), Nat.pow_succ, Nat.mul_comm (10 ^ k) 10, Nat.mod_mul]
    omega
theorem pad_eq {k : Nat} {l : List UInt8} (h : AllDig l) (hl : l.length = k) : pad k (dval l) = l :=
  dval_inj (pad_all _ _) h (by rw [pad_length, hl]) (by rw [dval_pad, Nat.mod_eq_of_lt (by rw [← hl]; exact dval_lt h)])
/-- A numeral with zeros ahead. -/
theorem pad_dec {k m : Nat} (h : (decDigits m).length ≤ k) : List.replicate (k - (decDigits m).length) 48 ++ decDigits m = pad k m :=
  dval_inj ((AllDig.reps _).append (dec_all m)) (pad_all _ _) (by rw [pad_length]; simp; omega)
    (by rw [dval_append, dval_reps, dval_pad, dval_dec, Nat.mod_eq_of_lt (Nat.lt_of_lt_of_le (lt_pow_dec m) (Nat.pow_le_pow_right (by decide) h))]; simp)

/-! ### itoa -/
theorem itoa_nonneg {x : Int} (h : 0 ≤ x) : itoa x = decDigits x.natAbs := by
  rw [itoa, if_neg (by omega)]; congr 1; omega
theorem itoa_neg {x : Int} (h : x < 0) : itoa x = 45 :: decDigits x.natAbs := by rw [itoa, if_pos h]
theorem itoa_nat (u : Nat) : itoa (u : Int) = decDigits u := by rw [itoa_nonneg (by omega)]; rfl
theorem itoa_ne (x : Int) : itoa x ≠ [] := by
  by_cases h : x < 0
  · rw [itoa_neg h]; simp
  · rw [itoa_nonneg (by omega)]; exact dec_ne _
theorem dec_head_ne (u : Nat) {c : UInt8} {l : List UInt8} (h : decDigits u = c :: l) : c ≠ 45 := fun e => by
  have := dec_all u c (by rw [h]; simp)
  rw [e] at this; revert this; decide
theorem itoa_head_neg {x : Int} {l : List UInt8} (h : itoa x = 45 :: l) : x < 0 := by
  rcases Int.lt_or_le x 0 with h1 | h1
  · exact h1
  · rw [itoa_nonneg h1] at h
    exact absurd rfl (dec_head_ne _ h)
theorem itoa_inj {x y : Int} (h : itoa x = itoa y) : x = y := by
  by_cases hx : x < 0
  · rw [itoa_neg hx] at h
    have hy := itoa_head_neg h.symm
    rw [itoa_neg hy] at h
    have := dec_inj (List.cons.inj h).2
    omega
  · rw [itoa_nonneg (by omega)] at h
    by_cases hy : y < 0
    · rw [itoa_neg hy] at h
      exact absurd rfl (dec_head_ne _ h)
    · rw [itoa_nonneg (by omega)] at h
      have := dec_inj h
      omega
theorem itoa_zero : itoa 0 = [48] := by rw [itoa_nonneg (by decide)]; exact dec_zero
theorem itoa_one : itoa 1 = [49] := by rw [itoa_nonneg (by decide)]; exact dec_one
theorem itoa_eq_zero {x : Int} : itoa x = [48] ↔ x = 0 := by
  constructor
  · intro h; exact itoa_inj (by rw [h, itoa_zero])
  · intro h; rw [h, itoa_zero]

end Go.Proofs.YtpjknkembghjcaaGreatDoor.Dec

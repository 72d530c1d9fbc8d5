/- Plain facts about numbers in pieces of a base, the least piece first. No program in sight. -/
import Derived.Lib.ItoaNum
set_option linter.unusedVariables false
namespace Go.Proofs.YtpjknkembghjcaaGreatDoor.Mag

/-- The number of pieces. -/
def pv (B : Int) : List Int → Int
  | [] => 0
  | x :: r => x + B * pv B r
/-- Every piece is one of the base. -/
def Pcs (B : Int) (l : List Int) : Prop := ∀ x ∈ l, 0 ≤ x ∧ x < B
/-- The last piece is not 0. -/
def Trm (l : List Int) : Prop := ∀ h : l ≠ [], l.getLast h ≠ 0

theorem Pcs.nil {B : Int} : Pcs B [] := fun _ h => by cases h
theorem Pcs.cons {B x : Int} {l : List Int} (hx : 0 ≤ x ∧ x < B) (h : Pcs B l) : Pcs B (x :: l) := fun y hy => by
  rcases List.mem_cons.1 hy with rfl | hy
  · exact hx
  · exact h y hy
theorem Pcs.append {B : Int} {l m : List Int} (h : Pcs B l) (k : Pcs B m) : Pcs B (l ++ m) := fun y hy => by
  rcases List.mem_append.1 hy with hy | hy
  · exact h y hy
  · exact k y hy
theorem Pcs.left {B : Int} {l m : List Int} (h : Pcs B (l ++ m)) : Pcs B l := fun y hy => h y (List.mem_append_left _ hy)
theorem Pcs.right {B : Int} {l m : List Int} (h : Pcs B (l ++ m)) : Pcs B m := fun y hy => h y (List.mem_append_right _ hy)
theorem Pcs.take {B : Int} {l : List Int} (h : Pcs B l) (k : Nat) : Pcs B (l.take k) := fun y hy => h y (List.mem_of_mem_take hy)
theorem Pcs.drop {B : Int} {l : List Int} (h : Pcs B l) (k : Nat) : Pcs B (l.drop k) := fun y hy => h y (List.mem_of_mem_drop hy)
theorem Pcs.at {B : Int} {l : List Int} (h : Pcs B l) (hB : 0 < B) (i : Nat) : 0 ≤ l.getD i 0 ∧ l.getD i 0 < B := by
  rw [List.getD_eq_getElem?_getD]
  cases e : l[i]? with
  | none => simp; exact hB
  | some x => exact h x (List.mem_of_getElem? e)
theorem Pcs.set {B : Int} {l : List Int} (h : Pcs B l) (i : Nat) {x : Int} (hx : 0 ≤ x ∧ x < B) : Pcs B (l.set i x) := fun y hy => by
  rcases List.mem_or_eq_of_mem_set hy with hy | rfl
  · exact h y hy
  · exact hx
theorem Pcs.zeros {B : Int} (hB : 0 < B) (k : Nat) : Pcs B (List.replicate k 0) := fun y hy => by
  rw [List.eq_of_mem_replicate hy]; omega

theorem pv_nil (B : Int) : pv B [] = 0 := rfl
theorem pv_cons (B x : Int) (l : List Int) : pv B (x :: l) = x + B * pv B l := rfl
theorem pv_one (B x : Int) : pv B [x] = x := by simp [pv]
theorem pv_append (B : Int) (l m : List Int) : pv B (l ++ m) = pv B l + B ^ l.length * pv B m := by
  induction l with
  | nil => simp [pv]
  | cons x l ih => simp only [List.cons_append, pv, ih, List.length_cons, Int.pow_succ, Int.mul_add]; rw [Int.mul_comm (B ^ l.length) B, Int.mul_assoc]; omega
theorem pv_snoc (B : Int) (l : List Int) (x : Int) : pv B (l ++ [x]) = pv B l + B ^ l.length * x := by rw [pv_append, pv_one]
theorem pv_zeros (B : Int) (k : Nat) : pv B (List.replicate k 0) = 0 := by
  induction k with
  | zero => rfl
  | succ k ih => rw [List.replicate_succ, pv, ih]; simp
theorem take_snoc (l : List Int) (i : Nat) (h : i < l.length) : l.take (i + 1) = l.take i ++ [l.getD i 0] := by
  rw [List.take_add_one, List.getElem?_eq_getElem h, List.getD_eq_getElem?_getD, List.getElem?_eq_getElem h]; rfl
theorem pv_take_succ (B : Int) (l : List Int) (i : Nat) (h : i < l.length) : pv B (l.take (i + 1)) = pv B (l.take i) + B ^ i * l.getD i 0 := by
  rw [take_snoc l i h, pv_snoc, List.length_take, Nat.min_eq_left (Nat.le_of_lt h)]
theorem pv_split (B : Int) (l : List Int) (i : Nat) (h : i ≤ l.length) : pv B l = pv B (l.take i) + B ^ i * pv B (l.drop i) := by
  have := pv_append B (l.take i) (l.drop i)
  rwa [List.take_append_drop, List.length_take, Nat.min_eq_left h] at this
theorem pv_drop_pred (B : Int) (l : List Int) (i : Nat) (h : i < l.length) : pv B (l.drop i) = l.getD i 0 + B * pv B (l.drop (i + 1)) := by
  rw [List.drop_eq_getElem_cons h, pv, List.getD_eq_getElem?_getD, List.getElem?_eq_getElem h]; rfl
theorem pv_set (B : Int) (l : List Int) (i : Nat) (x : Int) (h : i < l.length) : pv B (l.set i x) = pv B l + B ^ i * (x - l.getD i 0) := by
  induction l generalizing i with
  | nil => simp at h
  | cons y l ih =>
    cases i with
    | zero => simp [pv]; omega
    | succ i =>
      have := ih i (by simpa using h)
      simp only [List.set_cons_succ, pv, this, List.getD_cons_succ, Int.pow_succ, Int.mul_add]
      rw [Int.mul_comm (B ^ i) B, Int.mul_assoc]; omega

theorem pv_nonneg {B : Int} {l : List Int} (hB : 0 ≤ B) (h : Pcs B l) : 0 ≤ pv B l := by
  induction l with
  | nil => exact Int.le_refl _
  | cons x l ih =>
    have h1 := ih (fun y hy => h y (List.mem_cons_of_mem _ hy))
    have h2 := h x List.mem_cons_self
    have := Int.mul_nonneg hB h1
    rw [pv]; omega
theorem pv_lt {B : Int} {l : List Int} (hB : 0 < B) (h : Pcs B l) : pv B l < B ^ l.length := by
  induction l with
  | nil => simp [pv]
  | cons x l ih =>
    have h1 := ih (fun y hy => h y (List.mem_cons_of_mem _ hy))
    have h2 := h x List.mem_cons_self
    rw [pv, List.length_cons, Int.pow_succ, Int.mul_comm]
    have h3 : pv B l * B ≤ (B ^ l.length - 1) * B := Int.mul_le_mul_of_nonneg_right (by omega) (by omega)
    rw [Int.sub_mul] at h3
    omega
theorem pow_pos {B : Int} (hB : 0 < B) (k : Nat) : 0 < B ^ k := by
  induction k with
  | zero => simp
  | succ k ih => rw [Int.pow_succ]; exact Int.mul_pos ih hB
theorem pow_mono {B : Int} (hB : 0 < B) {j k : Nat} (h : j ≤ k) : B ^ j ≤ B ^ k := by
  induction k with
  | zero => obtain rfl : j = 0 := by omega
            exact Int.le_refl _
  | succ k ih =>
    rcases Nat.lt_or_ge j (k + 1) with h1 | h1
    · have := ih (by omega)
      have p := pow_pos hB k
      have : B ^ k * 1 ≤ B ^ k * B := Int.mul_le_mul_of_nonneg_left (by omega) (by omega)
      rw [Int.pow_succ]; omega
    · obtain rfl : j = k + 1 := by omega
      exact Int.le_refl _

/-! ### no zero piece at the end -/
theorem Trm.nil : Trm [] := fun h => absurd rfl h
theorem trm_snoc {l : List Int} {x : Int} (h : x ≠ 0) : Trm (l ++ [x]) := fun hn => by simpa using h
theorem trm_of_getD {l : List Int} (h : 0 < l.length → l.getD (l.length - 1) 0 ≠ 0) : Trm l := fun hn => by
  have hl := List.length_pos_iff.2 hn
  have := h hl
  rw [List.getD_eq_getElem?_getD, List.getElem?_eq_getElem (by omega)] at this
  rw [List.getLast_eq_getElem]
  exact this
theorem Trm.getD {l : List Int} (h : Trm l) (hl : 0 < l.length) : l.getD (l.length - 1) 0 ≠ 0 := by
  have := h (List.length_pos_iff.1 hl)
  rw [List.getLast_eq_getElem] at this
  rw [List.getD_eq_getElem?_getD, List.getElem?_eq_getElem (by omega)]
  exact this
theorem Trm.low {B : Int} {l : List Int} (hB : 0 < B) (hp : Pcs B l) (h : Trm l) (hl : 0 < l.length) : B ^ (l.length - 1) ≤ pv B l := by
  have e := pv_take_succ B l (l.length - 1) (by omega)
  rw [show l.length - 1 + 1 = l.length by omega, List.take_length] at e
  have h1 := h.getD hl
  have h2 := hp.at hB (l.length - 1)
  have h3 := pv_nonneg (by omega) (hp.take (l.length - 1))
  have h4 : B ^ (l.length - 1) * 1 ≤ B ^ (l.length - 1) * l.getD (l.length - 1) 0 := Int.mul_le_mul_of_nonneg_left (by omega) (Int.le_of_lt (pow_pos hB _))
  omega
theorem Trm.pos {B : Int} {l : List Int} (hB : 0 < B) (hp : Pcs B l) (h : Trm l) (hl : 0 < l.length) : 0 < pv B l :=
  Int.lt_of_lt_of_le (pow_pos hB _) (h.low hB hp hl)
theorem Trm.zero {B : Int} {l : List Int} (hB : 0 < B) (hp : Pcs B l) (h : Trm l) (hv : pv B l = 0) : l = [] := by
  rcases Nat.eq_zero_or_pos l.length with h0 | h0
  · exact List.length_eq_zero_iff.1 h0
  · have := h.pos hB hp h0; omega
theorem Trm.len_le {B : Int} {l : List Int} (hB : 1 < B) (hp : Pcs B l) (h : Trm l) {k : Nat} (hv : pv B l < B ^ k) : l.length ≤ k := by
  rcases Nat.lt_or_ge k l.length with h1 | h1
  · have a := h.low (by omega) hp (by omega)
    have b := pow_mono (B := B) (by omega) (show k ≤ l.length - 1 by omega)
    omega
  · exact h1
/-- A piece more at the top: who has less pieces is less. -/
theorem lt_of_len {B : Int} {l m : List Int} (hB : 0 < B) (hl : Pcs B l) (hm : Pcs B m) (tm : Trm m) (h : l.length < m.length) : pv B l < pv B m := by
  have a := pv_lt hB hl
  have b := tm.low hB hm (by omega)
  have c := pow_mono hB (show l.length ≤ m.length - 1 by omega)
  omega
/-- Equal above a piece, less at it. -/
theorem lt_of_drop {B : Int} {l m : List Int} (hB : 0 < B) (hl : Pcs B l) (hm : Pcs B m) (hn : l.length = m.length) (i : Nat) (hi : i < l.length)
    (he : l.drop (i + 1) = m.drop (i + 1)) (h : l.getD i 0 < m.getD i 0) : pv B l < pv B m := by
  rw [pv_split B l (i + 1) (by omega), pv_split B m (i + 1) (by omega), he, pv_take_succ B l i hi, pv_take_succ B m i (by omega)]
  have a := pv_lt hB (hl.take i)
  have b := pv_nonneg (Int.le_of_lt hB) (hm.take i)
  rw [List.length_take, Nat.min_eq_left (by omega)] at a
  have c : B ^ i * (l.getD i 0 + 1) ≤ B ^ i * m.getD i 0 := Int.mul_le_mul_of_nonneg_left (by omega) (Int.le_of_lt (pow_pos hB _))
  rw [Int.mul_add] at c
  omega
theorem getD_drop_eq {l m : List Int} {i : Nat} (hi : i < l.length) (hm : i < m.length) (he : l.drop (i + 1) = m.drop (i + 1)) (h : l.getD i 0 = m.getD i 0) : l.drop i = m.drop i := by
  rw [List.drop_eq_getElem_cons hi, List.drop_eq_getElem_cons hm, he]
  rw [List.getD_eq_getElem?_getD, List.getElem?_eq_getElem hi, List.getD_eq_getElem?_getD, List.getElem?_eq_getElem hm] at h
  simp only [Option.getD_some] at h
  rw [h]
theorem pv_inj {B : Int} {l m : List Int} (hB : 0 < B) (hl : Pcs B l) (hm : Pcs B m) (tl : Trm l) (tm : Trm m) (h : pv B l = pv B m) : l = m := by
  have hn : l.length = m.length := by
    rcases Nat.lt_trichotomy l.length m.length with h1 | h1 | h1
    · have := lt_of_len hB hl hm tm h1; omega
    · exact h1
    · have := lt_of_len hB hm hl tl h1; omega
  have key : ∀ j : Nat, j ≤ l.length → l.drop (l.length - j) = m.drop (l.length - j) := by
    intro j
    induction j with
    | zero => intro _; rw [Nat.sub_zero, List.drop_length, hn, List.drop_length]
    | succ j ih =>
      intro hj
      have he := ih (by omega)
      obtain ⟨i, hi⟩ : ∃ i, l.length - j = i + 1 := ⟨l.length - j - 1, by omega⟩
      rw [hi] at he
      rw [show l.length - (j + 1) = i by omega]
      refine getD_drop_eq (by omega) (by omega) he ?_
      rcases Int.lt_trichotomy (l.getD i 0) (m.getD i 0) with h1 | h1 | h1
      · have := lt_of_drop hB hl hm hn i (by omega) he h1; omega
      · exact h1
      · have := lt_of_drop hB hm hl hn.symm i (by omega) he.symm h1; omega
  have := key l.length (Nat.le_refl _)
  simpa using this

/-! ### trimming -/
/-- A zero at the end adds nothing. -/
theorem pv_take_pred (B : Int) (l : List Int) (n : Nat) (hn : n < l.length) (h : l.getD n 0 = 0) : pv B (l.take (n + 1)) = pv B (l.take n) := by
  rw [pv_take_succ B l n hn, h]; simp

theorem getD_out {l : List Int} {k : Nat} (h : l.length ≤ k) : l.getD k 0 = 0 := by
  rw [List.getD_eq_getElem?_getD, List.getElem?_eq_none h]; rfl
theorem pv_take_any (B : Int) (l : List Int) (k : Nat) : pv B (l.take (k + 1)) = pv B (l.take k) + B ^ k * l.getD k 0 := by
  by_cases h : k < l.length
  · exact pv_take_succ B l k h
  · rw [getD_out (by omega), List.take_of_length_le (by omega), List.take_of_length_le (by omega)]; simp
/-- One piece of a difference. -/
theorem minus_step {B br br' d : Int} {os xs ys : List Int} {k : Nat} (hl : os.length = k) (h : pv B os = pv B (xs.take k) - pv B (ys.take k) + br * B ^ k)
    (hd : d = xs.getD k 0 - (br + ys.getD k 0) + br' * B) : pv B (os ++ [d]) = pv B (xs.take (k + 1)) - pv B (ys.take (k + 1)) + br' * B ^ (k + 1) := by
  rw [pv_snoc, hl, h, pv_take_any, pv_take_any, Int.pow_succ, hd]
  grind
theorem minus_end {B br : Int} {os xs ys : List Int} {k : Nat} (hB : 0 < B) (po : Pcs B os) (hl : os.length = k) (h : pv B os = pv B xs - pv B ys + br * B ^ k) (hle : pv B ys ≤ pv B xs) (hb : 0 ≤ br) :
    pv B os = pv B xs - pv B ys := by
  have h1 := pv_lt hB po
  rw [hl] at h1
  rcases Int.lt_or_le 0 br with h2 | h2
  · have h3 : 1 * B ^ k ≤ br * B ^ k := Int.mul_le_mul_of_nonneg_right (by omega) (Int.le_of_lt (pow_pos hB k))
    omega
  · have h3 : br = 0 := by omega
    rw [h, h3]; simp
theorem Trm.len_le_of {B : Int} {xs ys : List Int} (hB : 1 < B) (px : Pcs B xs) (py : Pcs B ys) (ty : Trm ys) (h : pv B ys ≤ pv B xs) : ys.length ≤ xs.length := by
  rcases Nat.lt_or_ge xs.length ys.length with h1 | h1
  · have := lt_of_len (by omega) px py ty h1; omega
  · exact h1
/-- One piece of a sum. -/
theorem plus_step {B c c' d : Int} {os xs ys : List Int} {k : Nat} (hl : os.length = k) (h : pv B os + c * B ^ k = pv B (xs.take k) + pv B (ys.take k))
    (hd : d + c' * B = c + xs.getD k 0 + ys.getD k 0) : pv B (os ++ [d]) + c' * B ^ (k + 1) = pv B (xs.take (k + 1)) + pv B (ys.take (k + 1)) := by
  rw [pv_snoc, hl, pv_take_any, pv_take_any, Int.pow_succ]
  have e : xs.getD k 0 = d + c' * B - c - ys.getD k 0 := by omega
  rw [e]
  grind
theorem Pcs.snoc {B x : Int} {l : List Int} (h : Pcs B l) (hx : 0 ≤ x ∧ x < B) : Pcs B (l ++ [x]) := h.append (Pcs.cons hx Pcs.nil)
/-- One piece of a product, added at its place. -/
theorem times_step {B c c' d x y T : Int} {os ys : List Int} {k j : Nat} (hi : k + j < os.length) (h : pv B os + c * B ^ (k + j) = T + x * B ^ k * pv B (ys.take j))
    (hy : ys.getD j 0 = y) (hd : d + c' * B = c + (os.getD (k + j) 0 + x * y)) : pv B (os.set (k + j) d) + c' * B ^ (k + (j + 1)) = T + x * B ^ k * pv B (ys.take (j + 1)) := by
  rw [pv_set B os _ d hi, pv_take_any, hy, Int.mul_add, ← Int.add_assoc, ← h, show k + (j + 1) = (k + j) + 1 by omega, Int.pow_succ]
  have e : d = c + (os.getD (k + j) 0 + x * y) - c' * B := by omega
  have e2 : x * B ^ k * (B ^ j * y) = B ^ (k + j) * (x * y) := by rw [Int.pow_add]; grind
  rw [e, e2]
  grind
theorem times_carry {B c d : Int} {os : List Int} {n : Nat} {T : Int} (hi : n < os.length) (h0 : os.getD n 0 = 0) (h : pv B os + c * B ^ n = T) (hd : d = c) : pv B (os.set n d) + 0 * B ^ (n + 1) = T := by
  rw [pv_set B os _ d hi, h0, hd, ← h]
  grind
theorem getD_set_other {l : List Int} {i j : Nat} {x : Int} (h : i ≠ j) : (l.set i x).getD j 0 = l.getD j 0 := by
  rw [List.getD_eq_getElem?_getD, List.getD_eq_getElem?_getD, List.getElem?_set_ne h]
theorem mul_bounds {x y B : Int} (x0 : 0 ≤ x) (x1 : x ≤ B) (y0 : 0 ≤ y) (y1 : y ≤ B) : 0 ≤ x * y ∧ x * y ≤ B * B :=
  ⟨Int.mul_nonneg x0 y0, Int.mul_le_mul x1 y1 y0 (by omega)⟩
theorem getD_reps (n j : Nat) : (List.replicate n (0 : Int)).getD j 0 = 0 := by
  rw [List.getD_eq_getElem?_getD, List.getElem?_replicate]; split <;> rfl
/-- How many pieces are left behind trimming. -/
def trimN : List Int → Nat
  | [] => 0
  | x :: r => if trimN r = 0 then (if x = 0 then 0 else 1) else trimN r + 1
theorem trimN_le (l : List Int) : trimN l ≤ l.length := by
  induction l with
  | nil => exact Nat.le_refl _
  | cons x r ih => rw [trimN, List.length_cons]; split <;> (try split) <;> omega
theorem trimN_zeros (l : List Int) : ∀ j, trimN l ≤ j → l.getD j 0 = 0 := by
  induction l with
  | nil => intro j _; rw [getD_out (by simp)]
  | cons x r ih =>
    intro j hj
    rw [trimN] at hj
    cases j with
    | zero =>
      split at hj
      · split at hj
        · assumption
        · omega
      · omega
    | succ j =>
      rw [List.getD_cons_succ]
      apply ih
      split at hj
      · omega
      · omega
theorem trimN_last (l : List Int) (h : 0 < trimN l) : l.getD (trimN l - 1) 0 ≠ 0 := by
  induction l with
  | nil => simp [trimN] at h
  | cons x r ih =>
    rw [trimN] at h ⊢
    split
    · rename_i h0
      rw [if_pos h0] at h
      split
      · rename_i h1; rw [if_pos h1] at h; omega
      · assumption
    · rename_i h0
      rw [show trimN r + 1 - 1 = (trimN r - 1) + 1 by omega, List.getD_cons_succ]
      exact ih (by omega)
theorem trimN_eq {l : List Int} {m : Nat} (hm : m ≤ l.length) (h : 0 < m → l.getD (m - 1) 0 ≠ 0) (hz : ∀ j, m ≤ j → l.getD j 0 = 0) : m = trimN l := by
  rcases Nat.lt_trichotomy m (trimN l) with h1 | h1 | h1
  · exact absurd (hz (trimN l - 1) (by omega)) (trimN_last l (by omega))
  · exact h1
  · exact absurd (trimN_zeros l (m - 1) (by omega)) (h (by omega))
theorem pv_take_zeros (B : Int) (l : List Int) (m : Nat) (hm : m ≤ l.length) (hz : ∀ j, m ≤ j → l.getD j 0 = 0) : pv B (l.take m) = pv B l := by
  have key : ∀ d, m + d ≤ l.length → pv B (l.take (m + d)) = pv B (l.take m) := by
    intro d
    induction d with
    | zero => intro _; rfl
    | succ d ih =>
      intro h
      rw [show m + (d + 1) = m + d + 1 by omega, pv_take_succ B l _ (by omega), hz _ (by omega), ih (by omega)]; simp
  have := key (l.length - m) (by omega)
  rw [show m + (l.length - m) = l.length by omega, List.take_length] at this
  exact this.symm
theorem trm_take {l : List Int} {m : Nat} (hm : m ≤ l.length) (h : 0 < m → l.getD (m - 1) 0 ≠ 0) : Trm (l.take m) := trm_of_getD fun h0 => by
  rw [List.length_take, Nat.min_eq_left hm] at h0 ⊢
  have := h h0
  rw [List.getD_eq_getElem?_getD, List.getElem?_take_of_lt (by omega), ← List.getD_eq_getElem?_getD]
  exact this
/-- The order of two numbers: -1, 0, 1. -/
def cmpI (a b : Int) : Int := if a < b then -1 else if a = b then 0 else 1
theorem cmpI_lt {a b : Int} (h : a < b) : cmpI a b = -1 := by rw [cmpI, if_pos h]
theorem cmpI_eq {a b : Int} (h : a = b) : cmpI a b = 0 := by rw [cmpI, if_neg (by omega), if_pos h]
theorem cmpI_gt {a b : Int} (h : b < a) : cmpI a b = 1 := by rw [cmpI, if_neg (by omega), if_neg (by omega)]

end Go.Proofs.YtpjknkembghjcaaGreatDoor.Mag

/- Plain facts: the pieces of a numeral, nine digits each, taken off its end and put together again. No program in sight. -/
import Derived.Test.YtpjknkembghjcaaGreatDoorDec
import Derived.Test.YtpjknkembghjcaaGreatDoorMag
import Derived.Lib.ParseIntB
set_option linter.unusedVariables false
namespace Go.Proofs.YtpjknkembghjcaaGreatDoor.Chunk
open Go.Lib Go.Proofs.YtpjknkembghjcaaGreatDoor.Dec Go.Proofs.YtpjknkembghjcaaGreatDoor.Mag

theorem parseM_dig {M : Nat} {l : List UInt8} (h : AllDig l) (acc : Nat) (hb : acc * 10 ^ l.length + dval l ≤ M) (hM : M < 18446744073709551616) :
    parseUintM M acc l = .ok (acc * 10 ^ l.length + dval l) := by
  induction l generalizing acc with
  | nil => simp [parseUintM, dval_nil]
  | cons c l ih =>
    have hc := h.head
    have e : acc * 10 ^ (c :: l).length + dval (c :: l) = (acc * 10 + (c.toNat - 48)) * 10 ^ l.length + dval l := by
      rw [dval_cons, List.length_cons, Nat.pow_succ, Nat.add_mul, Nat.mul_assoc, Nat.mul_comm 10, Nat.add_assoc]
    rw [e] at hb ⊢
    have hp : 1 ≤ 10 ^ l.length := Nat.one_le_pow _ _ (by decide)
    have hle : acc * 10 + (c.toNat - 48) ≤ (acc * 10 + (c.toNat - 48)) * 10 ^ l.length := Nat.le_mul_of_pos_right _ hp
    rw [parseUintM, if_pos hc, if_neg (by omega), if_neg (by omega)]
    exact ih h.tail _ hb

theorem parse_dig {l : List UInt8} (h : AllDig l) (hn : l ≠ []) (hv : dval l < 18446744073709551616) : parseUintB 64 l = .ok (dval l) := by
  rw [parseUintB, if_neg hn]
  have := parseM_dig (M := 2 ^ 64 - 1) h 0 (by omega) (by decide)
  simpa using this

/-- A chunk of the end: at most nine digits. -/
theorem chunk_lt {l : List UInt8} (h : AllDig l) (hl : l.length ≤ 9) : dval l < 1000000000 :=
  Nat.lt_of_lt_of_le (dval_lt h) (Nat.le_trans (Nat.pow_le_pow_right (by decide) hl) (by decide))

theorem open_step {ds : List UInt8} {ps : List Int} {m : Nat} (hm : m ≤ ds.length) (h0 : 0 < m) (hn : m + 9 * ps.length = ds.length)
    (hv : pv 1000000000 ps + 1000000000 ^ ps.length * (dval (ds.take m) : Int) = dval ds) :
    pv 1000000000 (ps ++ [(dval ((ds.take m).drop (m - 9)) : Int)]) + 1000000000 ^ (ps.length + 1) * (dval (ds.take (m - 9)) : Int) = dval ds := by
  have e : ds.take m = ds.take (m - 9) ++ (ds.take m).drop (m - 9) := by
    have := (List.take_append_drop (m - 9) (ds.take m)).symm
    rwa [List.take_take, Nat.min_eq_left (by omega)] at this
  rw [pv_snoc, ← hv]
  conv => rhs; rw [e, dval_append]
  by_cases h9 : 9 ≤ m
  · have hl : ((ds.take m).drop (m - 9)).length = 9 := by rw [List.length_drop, List.length_take]; omega
    rw [hl, Int.natCast_add, Int.natCast_mul, Int.pow_succ]
    have : ((10 ^ 9 : Nat) : Int) = 1000000000 := by decide
    rw [this]
    grind
  · have : m - 9 = 0 := by omega
    rw [this, List.take_zero, dval_nil]
    simp

theorem dec_pad {v d : Nat} (hv : v ≠ 0) (hd : d < 1000000000) : decDigits v ++ pad 9 d = decDigits (v * 1000000000 + d) := by
  obtain ⟨c, l, e, h1, h2⟩ := dec_head v hv
  have ha : AllDig (c :: (l ++ pad 9 d)) := by
    have := (dec_all v).append (pad_all 9 d)
    rwa [e, List.cons_append] at this
  have hd' : dval (c :: (l ++ pad 9 d)) = v * 1000000000 + d := by
    rw [← List.cons_append, ← e, dval_append, dval_dec, dval_pad, pad_length, Nat.mod_eq_of_lt hd]
  rw [← hd', dec_dval ha (Or.inr fun h => by subst h; revert h1; decide), e]
  rfl

theorem pad_take {m : Nat} (h : m < 1000000000) : List.replicate (9 - (decDigits m).length) 48 ++ decDigits m = pad 9 m :=
  pad_dec (dec_len_le (by decide) (by simpa using h))

/-- close's round: one piece more behind. -/
theorem close_step {xs : List Int} {i : Nat} (hp : Pcs 1000000000 xs) (ht : Trm xs) (hi : i + 1 < xs.length) :
    decDigits (pv 1000000000 (xs.drop (i + 1))).toNat ++ pad 9 (xs.getD i 0).toNat = decDigits (pv 1000000000 (xs.drop i)).toNat := by
  have h1 := hp.at (by omega) i
  have ht' : Trm (xs.drop (i + 1)) := trm_of_getD fun h => by
    have hx := ht.getD (by omega)
    rw [List.length_drop, List.getD_eq_getElem?_getD, List.getElem?_drop] at *
    rwa [show i + 1 + (xs.length - (i + 1) - 1) = xs.length - 1 by omega]
  have h2 : 0 < pv 1000000000 (xs.drop (i + 1)) := ht'.pos (by omega) (hp.drop _) (by rw [List.length_drop]; omega)
  rw [dec_pad (by omega) (by omega), pv_drop_pred _ _ i (by omega)]
  congr 1
  omega

theorem close_first {xs : List Int} (h : 0 < xs.length) : pv 1000000000 (xs.drop (xs.length - 1)) = xs.getD (xs.length - 1) 0 := by
  rw [pv_drop_pred _ _ _ (by omega), show xs.length - 1 + 1 = xs.length by omega, List.drop_length, pv_nil]; omega

end Go.Proofs.YtpjknkembghjcaaGreatDoor.Chunk

/- integer.DivMod. -/
import Derived.Test.YtpjknkembghjcaaGreatDoorMul
import Derived.Test.YtpjknkembghjcaaGreatDoorMinus
import Derived.Test.YtpjknkembghjcaaGreatDoorDivide2w
import Derived.Test.YtpjknkembghjcaaGreatDoorNum
set_option linter.unusedVariables false
set_option linter.unusedSimpArgs false
namespace Go.Proofs.YtpjknkembghjcaaGreatDoor
open Go.RowKit Go.Lib Go.Proofs.YtpjknkembghjcaaGreatDoor.Dec Go.Proofs.YtpjknkembghjcaaGreatDoor.Mag Go.Proofs.YtpjknkembghjcaaGreatDoor.Chunk

/-- What divide answers to magnitudes x and y. -/
def DivAt (x y : Int) : Prop := ∀ (v v' : Value) (w : World), Mg w v x → Mg w v' y →
  Calls Tryz.prog 37 #[v, v'] w fun e w' => ∃ q r, e = .returned (.tuple #[q, r]) ∧ Mg w' q (x / y) ∧ Mg w' r (x % y) ∧ Below w.heap.size w w'
theorem divAt_less {x y : Int} (h0 : 0 ≤ x) (h : x < y) : DivAt x y := fun v v' w hx hy => (divide_less v v' x y w hx hy h).mono fun e w' ⟨q, he, hq, hb⟩ =>
  ⟨q, v, he, by rw [Int.ediv_eq_zero_of_lt h0 h]; exact hq.mg, by rw [Int.emod_eq_of_lt h0 h]; exact hx.below (Nat.le_refl _) hb, hb⟩
theorem divAt_piece {x y : Int} (bx : x < LIM) (p0 : 0 < y) (p1 : y < 1000000000) : DivAt x y := fun v v' w hx hy => (divide_piece v v' x y w hx hy bx p0 p1).mono fun e w' ⟨q, r, he, hq, hr, hb⟩ => ⟨q, r, he, hq.mg, hr, hb⟩

theorem mg_lit (w : World) (d : Int) (h0 : 0 < d) (h1 : d < 1000000000) : Mg (w.alloc (.cells #[.int .u64 d] 56)) (.slice (some ⟨w.heap.size, 0, none⟩) 1 1) d :=
  ⟨_, 1, 1, [d], rfl, rfl, Nat.le_refl _, Rd.lit1 w 56 .u64 d, Pcs.cons ⟨by omega, h1⟩ Pcs.nil, fun h => by simp; omega, pv_one _ _⟩
theorem mg_len {w : World} {a : Option Addr} {n c : Nat} {x : Int} (h : Mg w (.slice a n c) x) : (n = 0 → x = 0) ∧ (0 < n → 0 < x) := by
  obtain ⟨a', n', c', xs, e, hl, hc, hr, hp, ht, hv⟩ := h
  cases e
  subst hl hv
  exact ⟨fun h => by rw [List.length_eq_zero_iff.1 h, pv_nil], fun h => ht.pos (by omega) hp h⟩

theorem lim_of_len1 {x : Int} {m : Nat} (hm : m + 1 ≤ 1000000) (h : (itoa x).length ≤ 9 * m) : (x.natAbs : Int) + 1 < LIM :=
  lim_of_pow hm (by
    have := itoa_len_le h
    rw [Int.pow_mul, show (10 : Int) ^ 9 = 1000000000 by decide] at this
    rw [Int.pow_succ]
    omega)
theorem below_step {n : Nat} {A X Z : World} (h : Below n A X) (h2 : Below X.heap.size X Z) (hn : n ≤ A.heap.size) : Below n A Z := h.trans (h2.mono (Nat.le_trans hn h.size))

set_option maxHeartbeats 1000000 in
set_option maxRecDepth 100000 in
theorem divmod_zero (x : Int) (w : World) :
    Calls Tryz.prog 11 #[.string ⟨(itoa x).toArray⟩, .string ⟨#[48]⟩] w fun e w' => e = .returned (.tuple #[.string ⟨#[]⟩, .string ⟨#[]⟩, .int .i64 17]) ∧ w' = w := by
  go_enter Tryz.func11, Tryz.ntmps11
  go_wp2
  go_ret3
  exact ⟨rfl, rfl⟩

set_option maxHeartbeats 2000000 in
set_option maxRecDepth 100000 in
theorem divmod_n (x y : Int) (w : World) (hy0 : y ≠ 0) (hx : (itoa x).length ≤ 100000) (hy : (itoa y).length ≤ 100000) (hd : DivAt (x.natAbs : Int) (y.natAbs : Int)) (htab : TabIs Tryz.prog w "internal/strconv.uint64pow10" .u64 pow10Tab) :
    Calls Tryz.prog 11 #[.string ⟨(itoa x).toArray⟩, .string ⟨(itoa y).toArray⟩] w fun e w' => e = .returned (.tuple #[.string ⟨(itoa (x / y)).toArray⟩, .string ⟨(itoa (x % y)).toArray⟩, .int .i64 0]) ∧ Below w.heap.size w w' := by
  have hz : (itoa y == [48]) = false := by
    rw [beq_eq_false_iff_ne]; exact fun e => hy0 (itoa_eq_zero.1 e)
  obtain ⟨hm1, hm2⟩ := Num.divmod_mag hy0 (rfl : (x.natAbs : Int) / (y.natAbs : Int) = _) (rfl : (x.natAbs : Int) % (y.natAbs : Int) = _)
  have HM1 := Lib.hid hm1
  have HM2 := Lib.hid hm2
  clear hm1 hm2
  go_enter Tryz.func11, Tryz.ntmps11
  go_wp2_with (go_at_call 36; refine (open_n x _ (by omega)).mono ?_; rintro e w3 ⟨p, rfl, hp, hb⟩; refine Hid.out ?_)
  refine Lib.hid ?_
  go_wp2_with (go_at_call 36; refine (open_n y _ (by omega)).mono ?_; rintro e w4 ⟨q, rfl, hq, hc⟩; have h4 := hb.trans (hc.mono hb.size); refine Hid.out ?_)
  refine Lib.hid ?_
  have HP := Lib.hid (hp.mg.below (Nat.le_refl _) hc)
  have HQ := Lib.hid hq.mg
  clear hp hq hb hc
  obtain ⟨a, n, c, zp, rfl, hrest⟩ := HP.out
  obtain ⟨a', n', c', zq, rfl, hrest'⟩ := HQ.out
  clear hrest hrest'
  have BX := Lib.hid (lim_of_len1 (m := 100000) (by decide) (show (itoa x).length ≤ 9 * 100000 by omega))
  have BY := Lib.hid (lim_of_len1 (m := 100000) (by decide) (show (itoa y).length ≤ 9 * 100000 by omega))
  have X0 : 0 ≤ (x.natAbs : Int) := by omega
  have Y0 : 0 < (y.natAbs : Int) := by omega
  have Q1 := Int.ediv_le_self (y.natAbs : Int) X0
  have Q0 := Int.ediv_nonneg X0 (Int.le_of_lt Y0)
  have R0 := Int.emod_nonneg (x.natAbs : Int) (show (y.natAbs : Int) ≠ 0 by omega)
  have R1 := Int.emod_lt_of_pos (x.natAbs : Int) Y0
  generalize hD : (x.natAbs : Int) / (y.natAbs : Int) = D at *
  generalize hR : (x.natAbs : Int) % (y.natAbs : Int) = R at *
  have BD := Lib.hid (show D + 1 < LIM by have := BX.out; omega)
  have BD0 := Lib.hid (show D < LIM by have := BX.out; omega)
  have BR := Lib.hid (show R < LIM by have := BY.out; omega)
  have BYR := Lib.hid (show (y.natAbs : Int) - R < LIM by have := BY.out; omega)
  have HD := Lib.hid hD
  have HR := Lib.hid hR
  clear hD hR
  generalize hsy : decide (y < 0) = sy at *
  generalize hsx : decide (x < 0) = sx at *
  have HSX := Lib.hid hsx
  clear hsy hsx
  go_wp2_with fail
  generalize hW5 : (w4.alloc (.cells #[.bool sx, .slice a n c] 51)).alloc (.cells #[.bool sy, .slice a' n' c'] 51) = W5
  have h5 : Below w4.heap.size w4 W5 := by rw [← hW5]; exact ((Below.refl _ _).alloc (Nat.le_refl _) _).alloc (by simp) _
  have h6 := h4.trans (h5.mono h4.size)
  have HP5 := Lib.hid (HP.out.below (Nat.le_refl _) h5)
  have HQ5 := Lib.hid (HQ.out.below (Nat.le_refl _) h5)
  have c1 : W5.cell? ⟨w4.heap.size, 0, none⟩ = some (.bool sx) := by rw [← hW5]; simp
  have c3 : W5.cell? ⟨w4.heap.size + 1, 0, none⟩ = some (.bool sy) := by rw [← hW5]; simp
  have c4 : W5.cell? ⟨w4.heap.size + 1, 1, none⟩ = some (.slice a' n' c') := by rw [← hW5]; simp
  have hs5 : w4.heap.size + 2 ≤ W5.heap.size := by rw [← hW5]; simp
  clear HP HQ h4 h5 hW5
  generalize w4.heap.size = s at *
  refine (hd _ _ _ HP5.out HQ5.out).mono ?_
  rintro e W6 ⟨d, m, rfl, hdd, hmm, hb6⟩
  rw [HD.out] at hdd
  rw [HR.out] at hmm
  have HDD := Lib.hid hdd
  have HMM := Lib.hid hmm
  have HQ6 := Lib.hid (HQ5.out.below (Nat.le_refl _) hb6)
  have d1 := (hb6.cell (p := ⟨s, 0, none⟩) (by show s < W5.heap.size; omega)).trans c1
  have d3 := (hb6.cell (p := ⟨s + 1, 0, none⟩) (by show s + 1 < W5.heap.size; omega)).trans c3
  have d4 := (hb6.cell (p := ⟨s + 1, 1, none⟩) (by show s + 1 < W5.heap.size; omega)).trans c4
  have h7 := h6.trans (hb6.mono h6.size)
  have hs6 : s + 2 ≤ W6.heap.size := by have := hb6.size; omega
  obtain ⟨ad, nd, cd, zd, rfl, hrest⟩ := hdd
  obtain ⟨am, nm, cm, zm, rfl, hrest'⟩ := hmm
  clear hrest hrest' HP5 HQ5 c1 c3 c4 hs5 hb6 h6 BX hd
  have hnm := mg_len HMM.out
  by_cases hway : sx = true ∧ 0 < nm
  · obtain ⟨rfl, hn0⟩ := hway
    have hxn : x < 0 := by have := HSX.out; simpa using this
    have hRp := hnm.2 hn0
    clear hnm
    obtain ⟨e1, e2⟩ := HM1.out ⟨hxn, hRp⟩
    have E1 := Lib.hid e1
    have E2 := Lib.hid e2
    clear e1 e2 HM1 HM2 hxn
    go_wp2_with fail
    have hS := Lib.hid (show ∀ w', Below W6.heap.size W6 w' → w'.cell? ⟨s + 1, 1, none⟩ = some (.slice a' n' c') from fun w' h => (h.cell (p := ⟨s + 1, 1, none⟩) (by show s + 1 < W6.heap.size; omega)).trans d4)
    have hDm := Lib.hid (show ∀ w', Below W6.heap.size W6 w' → Mg w' (.slice ad nd cd) D from fun w' h => HDD.out.below (Nat.le_refl _) h)
    have hQm := Lib.hid (show ∀ w', Below W6.heap.size W6 w' → Mg w' (.slice a' n' c') (y.natAbs : Int) from fun w' h => HQ6.out.below (Nat.le_refl _) h)
    have hMm := Lib.hid (show ∀ w', Below W6.heap.size W6 w' → Mg w' (.slice am nm cm) R from fun w' h => HMM.out.below (Nat.le_refl _) h)
    have hk0 : Below W6.heap.size W6 W6.drew := (Below.refl _ _).drew
    have hrle := Lib.hid (Int.le_of_lt R1)
    have B1 := Lib.hid (lim_of_small (x := 1) (by decide))
    go_region_held3 (fun w' => w'.cell? ⟨s + 1, 1, none⟩ = some (.slice a' n' c')) (exact hS.out _ (by first | exact hkM | exact hkM.alloc hkM.size _ | exact hkP | exact hkP.alloc hkP.size _ | exact hk0 | exact hk0.alloc hk0.size _ | exact ((Below.refl _ _).alloc (Nat.le_refl _) _).drew)) (first
      | (go_at_call 38; (with_reducible refine (plus_mg (.slice ad nd cd) _ D 1 _ (hDm.out _ (by first | exact hkM | exact hkM.alloc hkM.size _ | exact hkP | exact hkP.alloc hkP.size _ | exact hk0 | exact hk0.alloc hk0.size _ | exact ((Below.refl _ _).alloc (Nat.le_refl _) _).drew)) (by first | exact mg_lit _ _ (by decide) (by decide) | exact (mg_lit _ _ (by decide) (by decide)).drew | exact HL6.out) BD0.out B1.out).mono ?_); rintro e wP ⟨u, rfl, hu, hbP⟩; have HU := Lib.hid hu; obtain ⟨au, nu, cu, zu, rfl, hru⟩ := hu; clear hru; have hkP : Below W6.heap.size W6 wP := below_step (by first | exact hkM | exact hkM.alloc hkM.size _ | exact hkP | exact hkP.alloc hkP.size _ | exact hk0 | exact hk0.alloc hk0.size _ | exact ((Below.refl _ _).alloc (Nat.le_refl _) _).drew) hbP (Nat.le_refl _))
      | (go_at_call 39; (with_reducible refine (minus_mg (.slice a' n' c') (.slice am nm cm) (y.natAbs : Int) R _ (hQm.out _ (by first | exact hkM | exact hkM.alloc hkM.size _ | exact hkP | exact hkP.alloc hkP.size _ | exact hk0 | exact hk0.alloc hk0.size _ | exact ((Below.refl _ _).alloc (Nat.le_refl _) _).drew)) (hMm.out _ (by first | exact hkM | exact hkM.alloc hkM.size _ | exact hkP | exact hkP.alloc hkP.size _ | exact hk0 | exact hk0.alloc hk0.size _ | exact ((Below.refl _ _).alloc (Nat.le_refl _) _).drew)) hrle.out).mono ?_); rintro e wM ⟨z, rfl, hz, hbM⟩; have HZ := Lib.hid hz.mg; obtain ⟨az, nz, cz, zz, rfl, hrz⟩ := hz; clear hrz; have hkM : Below W6.heap.size W6 wM := below_step (by first | exact hkM | exact hkM.alloc hkM.size _ | exact hkP | exact hkP.alloc hkP.size _ | exact hk0 | exact hk0.alloc hk0.size _ | exact ((Below.refl _ _).alloc (Nat.le_refl _) _).drew) hbM (Nat.le_refl _); try (have HL6 := Lib.hid ((mg_lit W6 1 (by decide) (by decide)).drew.below (Nat.le_refl _) hbM))))
    all_goals
      first
        | (have HU2 := Lib.hid (HU.out.below (Nat.le_refl _) hbM); have HZ2 := HZ; have hk9 := hkM)
        | (have HZ2 := Lib.hid (HZ.out.below (Nat.le_refl _) hbP); have HU2 := HU; have hk9 := hkP)
        | (have HZ2 := Lib.hid ((HZ.out.below (Nat.le_refl _) ((Below.refl _ wM).alloc (Nat.le_refl _) _)).below (Nat.le_refl _) hbP); have HU2 := HU; have hk9 := hkP)
      have h9 := h7.trans (hk9.mono h7.size)
      have e1 := (hk9.cell (p := ⟨s, 0, none⟩) (by show s < W6.heap.size; omega)).trans d1
      have e3 := (hk9.cell (p := ⟨s + 1, 0, none⟩) (by show s + 1 < W6.heap.size; omega)).trans d3
      clear hkM hkP hbM hbP hk0 hS hDm hQm hMm
      go_wp2_with fail
      refine (close_n _ _ (D + 1) _ HU2.out BD.out (tab_below htab h9)).mono ?_
      rintro e w8 ⟨rfl, h8⟩
      rw [show (if (!sy) = true then -(D + 1) else D + 1) = x / y by simpa using E1.out]
      have HM8 := Lib.hid (HZ2.out.below (Nat.le_refl _) h8)
      have h10 := h9.trans (h8.mono h9.size)
      clear h8 HU HZ HZ2 HU2
      go_wp2_with fail
      refine (close_n _ _ ((y.natAbs : Int) - R) _ HM8.out BYR.out (tab_below htab h10)).mono ?_
      rintro e w9 ⟨rfl, hb9⟩
      rw [if_neg (by decide), E2.out]
      have h11 := Lib.hid (h10.trans (hb9.mono h10.size))
      go_wp2
      go_ret3
      exact ⟨rfl, h11.out⟩
  · have hsplit : sx = false ∨ sx = true ∧ nm = 0 := by
      cases sx
      · exact .inl rfl
      · refine .inr ⟨rfl, ?_⟩
        rcases Nat.eq_zero_or_pos nm with h | h
        · exact h
        · exact absurd ⟨rfl, h⟩ hway
    obtain ⟨e1, e2⟩ := HM2.out (by
      rintro ⟨h1, h2⟩
      rcases hsplit with h | ⟨_, h⟩
      · subst h; have := HSX.out; simp at this; omega
      · have := hnm.1 h; omega)
    have E1 := Lib.hid e1
    have E2 := Lib.hid e2
    clear e1 e2 HM1 HM2 hnm
    rcases hsplit with rfl | ⟨rfl, rfl⟩
    all_goals
      go_wp2_with fail
      refine (close_n _ _ D _ HDD.out BD0.out (tab_below htab h7)).mono ?_
      rintro e w8 ⟨rfl, h8⟩
      first
        | rw [show (if sy = true then -D else D) = x / y by simpa using E1.out]
        | rw [show (if (!sy) = true then -D else D) = x / y by simpa using E1.out]
      have HM8 := Lib.hid (HMM.out.below (Nat.le_refl _) h8)
      have h9 := h7.trans (h8.mono h7.size)
      clear h8 HMM HDD
      go_wp2_with fail
      refine (close_n _ _ R _ HM8.out BR.out (tab_below htab h9)).mono ?_
      rintro e w9 ⟨rfl, hb9⟩
      rw [if_neg (by decide), E2.out]
      have h10 := Lib.hid (h9.trans (hb9.mono h9.size))
      go_wp2
      go_ret3
      exact ⟨rfl, h10.out⟩

end Go.Proofs.YtpjknkembghjcaaGreatDoor

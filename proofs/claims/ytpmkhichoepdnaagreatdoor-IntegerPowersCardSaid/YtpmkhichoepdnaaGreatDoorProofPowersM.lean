/- IntegerPowers, proved: for any described integer of at most 12 digits and any exponent, Power returns the power (compared up to the exponent 25), or the first error. Conditions: the listed package variables of Go's library hold what the program's text lays (the card ties that). -/
import Derived.Test.YtpmkhichoepdnaaGreatDoorKnown
import Derived.Test.YtpmkhichoepdnaaGreatDoorMake
import Derived.Test.YtpmkhichoepdnaaGreatDoorPower
import Derived.Test.YtpmkhichoepdnaaGreatDoorRefPower
import Derived.Test.YtpmkhichoepdnaaGreatDoorBaseArgZ2
import Derived.Test.YtpmkhichoepdnaaGreatDoorCards
set_option linter.unusedVariables false
set_option linter.unusedSimpArgs false
namespace Go.Proofs.YtpmkhichoepdnaaGreatDoor
open Go.RowKit Go.Lib Go.Proofs.YtpmkhichoepdnaaGreatDoor.Dec Go.Proofs.YtpmkhichoepdnaaGreatDoor.Mag Go.Proofs.YtpmkhichoepdnaaGreatDoor.Chunk

set_option maxHeartbeats 2000000 in
set_option maxRecDepth 100000 in
theorem law_powers (minus : Bool) (A : Option Addr) (ca : Nat) (ds : List Int) (n : Int) (w : World) (hr : RdB w A ds) (hb : ∀ k, k < ds.length → 0 ≤ ds.getD k 0 ∧ ds.getD k 0 < 256) (h0 : -9223372036854775808 ≤ n) (h1 : n ≤ 9223372036854775807)
    (htab : TabIs Tryz.prog w "internal/strconv.uint64pow10" .u64 pow10Tab) :
    Calls Tryz.prog 6 #[.agg #[.bool minus, .slice A ds.length ca], .int .i64 n] w fun e w' => e = .returned (.bool true) ∧ Below w.heap.size w w' := by
  have hM := Lib.hid (fun w hr => make_i 12 minus A ca ds 12 rfl w hr hb (by decide))
  have hlen := makeVal_len minus ds 12 (by decide)
  generalize makeVal minus ds 12 = x at *
  have hRA := Lib.hid (fun w => ref_abs_p x w (by omega))
  have hst := str_size (decDigits x.natAbs)
  have hp := dec_len_pos x.natAbs
  have hd0 : ((decDigits x.natAbs).length : Int) ≠ 0 := by omega
  have hle : (decDigits x.natAbs).length ≤ 13 := Nat.le_trans (digs_len x) hlen
  have hq1 : 0 ≤ (5000 : Int).tdiv ((decDigits x.natAbs).length : Int) := Int.tdiv_nonneg (by decide) (by omega)
  have hq2 : (5000 : Int).tdiv ((decDigits x.natAbs).length : Int) ≤ 5000 := by
    rw [Int.tdiv_eq_ediv_of_nonneg (by decide)]
    exact Int.ediv_le_self _ (by decide)
  by_cases hn : n < 0
  · have hP := Lib.hid (fun w => power_neg x n w hn h0)
    clear hRA hst hp hd0 hle hq1 hq2
    go_enter Tryz.func6, Tryz.ntmps6
    go_wp2_with fail
    have b0 : Below w.heap.size w (w.alloc (.cells #[.bool minus, .slice A ds.length ca] 24)) := (Below.refl _ _).alloc (Nat.le_refl _) _
    refine (known_n _ (tab_below htab b0)).mono ?_
    rintro e w1 ⟨rfl, hk1⟩
    have b1 := b0.trans (hk1.mono b0.size)
    have c0 : w1.cell? ⟨w.heap.size, 0, none⟩ = some (.bool minus) := by rw [hk1.cell (p := ⟨w.heap.size, 0, none⟩) (by simp)]; simp
    have c1 : w1.cell? ⟨w.heap.size, 1, none⟩ = some (.slice A ds.length ca) := by rw [hk1.cell (p := ⟨w.heap.size, 1, none⟩) (by simp)]; simp
    have hr1 := Lib.hid (hr.below b1)
    clear b0 hk1
    go_wp2_with (first
      | (go_at_call 10; refine (hM.out _ hr1.out).mono ?_; rintro e w2 ⟨rfl, h2⟩; have b2 := b1.trans (h2.mono b1.size))
      | (go_at_call 21; refine (hP.out _).mono ?_; rintro e w3 ⟨rfl, rfl⟩))
    go_ret
    exact ⟨by simp, b2⟩
  · by_cases hbig : (5000 : Int).tdiv ((decDigits x.natAbs).length : Int) < n
    · have hP := Lib.hid (fun w => power_big x n w (by omega) (by omega) h1 hbig)
      generalize decDigits x.natAbs = s at *
      have hbd := decide_eq_true hbig
      go_enter Tryz.func6, Tryz.ntmps6
      go_wp2_with fail
      have b0 : Below w.heap.size w (w.alloc (.cells #[.bool minus, .slice A ds.length ca] 24)) := (Below.refl _ _).alloc (Nat.le_refl _) _
      refine (known_n _ (tab_below htab b0)).mono ?_
      rintro e w1 ⟨rfl, hk1⟩
      have b1 := b0.trans (hk1.mono b0.size)
      have c0 : w1.cell? ⟨w.heap.size, 0, none⟩ = some (.bool minus) := by rw [hk1.cell (p := ⟨w.heap.size, 0, none⟩) (by simp)]; simp
      have c1 : w1.cell? ⟨w.heap.size, 1, none⟩ = some (.slice A ds.length ca) := by rw [hk1.cell (p := ⟨w.heap.size, 1, none⟩) (by simp)]; simp
      have hr1 := Lib.hid (hr.below b1)
      clear b0 hk1
      go_wp2_with (first
        | (go_at_call 10; refine (hM.out _ hr1.out).mono ?_; rintro e w2 ⟨rfl, h2⟩; have b2 := b1.trans (h2.mono b1.size))
        | (go_at_call 21; refine (hP.out _).mono ?_; rintro e w3 ⟨rfl, rfl⟩)
        | (go_at_call 22; refine (hRA.out _).mono ?_; rintro e w4 ⟨rfl, h4⟩; have b4 := b2.trans (h4.mono b2.size)))
      go_ret
      exact ⟨by simp, b4⟩
    · obtain ⟨m, rfl⟩ : ∃ m : Nat, n = (m : Int) := ⟨n.toNat, by omega⟩
      have hP := Lib.hid (fun w htab => power_ok x m w (by omega) hbig htab)
      have hR := Lib.hid (fun (h : m ≤ 25) w htab => ref_power_n x m w (by omega) h htab)
      generalize decDigits x.natAbs = s at *
      have hbd := decide_eq_false hbig
      generalize x ^ m = Z at *
      by_cases h25 : m ≤ 25
      · have h25' : ¬ (25 : Int) < (m : Int) := by omega
        go_enter Tryz.func6, Tryz.ntmps6
        go_wp2_with fail
        have b0 : Below w.heap.size w (w.alloc (.cells #[.bool minus, .slice A ds.length ca] 24)) := (Below.refl _ _).alloc (Nat.le_refl _) _
        refine (known_n _ (tab_below htab b0)).mono ?_
        rintro e w1 ⟨rfl, hk1⟩
        have b1 := b0.trans (hk1.mono b0.size)
        have c0 : w1.cell? ⟨w.heap.size, 0, none⟩ = some (.bool minus) := by rw [hk1.cell (p := ⟨w.heap.size, 0, none⟩) (by simp)]; simp
        have c1 : w1.cell? ⟨w.heap.size, 1, none⟩ = some (.slice A ds.length ca) := by rw [hk1.cell (p := ⟨w.heap.size, 1, none⟩) (by simp)]; simp
        have hr1 := Lib.hid (hr.below b1)
        clear b0 hk1
        go_wp2_with (first
          | (go_at_call 10; refine (hM.out _ hr1.out).mono ?_; rintro e w2 ⟨rfl, h2⟩; have b2 := b1.trans (h2.mono b1.size))
          | (go_at_call 21; refine (hP.out _ (tab_below htab b2)).mono ?_; rintro e w3 ⟨rfl, h3⟩; have b3 := b2.trans (h3.mono b2.size))
          | (go_at_call 22; refine (hRA.out _).mono ?_; rintro e w4 ⟨rfl, h4⟩; have b4 := b3.trans (h4.mono b3.size))
          | (go_at_call 23; refine (hR.out h25 _ (tab_below htab b4)).mono ?_; rintro e w5 ⟨rfl, h5⟩; have b5 := b4.trans (h5.mono b4.size)))
        go_ret
        exact ⟨by simp, b5⟩
      · have h25' : (25 : Int) < (m : Int) := by omega
        go_enter Tryz.func6, Tryz.ntmps6
        go_wp2_with fail
        have b0 : Below w.heap.size w (w.alloc (.cells #[.bool minus, .slice A ds.length ca] 24)) := (Below.refl _ _).alloc (Nat.le_refl _) _
        refine (known_n _ (tab_below htab b0)).mono ?_
        rintro e w1 ⟨rfl, hk1⟩
        have b1 := b0.trans (hk1.mono b0.size)
        have c0 : w1.cell? ⟨w.heap.size, 0, none⟩ = some (.bool minus) := by rw [hk1.cell (p := ⟨w.heap.size, 0, none⟩) (by simp)]; simp
        have c1 : w1.cell? ⟨w.heap.size, 1, none⟩ = some (.slice A ds.length ca) := by rw [hk1.cell (p := ⟨w.heap.size, 1, none⟩) (by simp)]; simp
        have hr1 := Lib.hid (hr.below b1)
        clear b0 hk1
        go_wp2_with (first
          | (go_at_call 10; refine (hM.out _ hr1.out).mono ?_; rintro e w2 ⟨rfl, h2⟩; have b2 := b1.trans (h2.mono b1.size))
          | (go_at_call 21; refine (hP.out _ (tab_below htab b2)).mono ?_; rintro e w3 ⟨rfl, h3⟩; have b3 := b2.trans (h3.mono b2.size))
          | (go_at_call 22; refine (hRA.out _).mono ?_; rintro e w4 ⟨rfl, h4⟩; have b4 := b3.trans (h4.mono b3.size)))
        go_ret
        exact ⟨by simp, b4⟩

end Go.Proofs.YtpmkhichoepdnaaGreatDoor

set_option linter.unusedVariables false
namespace Go.Proofs.YtpmkhichoepdnaaGreatDoor
open Go.ChangeShapes Go.WideShapes Go.ChangeAt Go.RowKit Go.ChangeMaps

set_option maxRecDepth 100000 in
theorem integerPowers_lifted (os : Os) (started : os.Started) (H : Type) (enc : TypeId × Value → H) :
    ReturnsInHanded {} Tryz.checked os 6 .any (fun w args => (Rows.integerPowersSpec.pre enc Tryz.prog Tryz.f6 Rows.integerPowersRow.domain false w args ∧ laidMetH Tryz.prog Rows.integerPowersRow.laid w) ∧ sizedMet enc Tryz.prog Tryz.f6 (OpenSpec.ofChange Rows.integerPowersSpec) false w args)
      (Rows.integerPowersSpec.post enc Tryz.prog Tryz.f6 false true false false) := by
  refine returnsInHanded_of_change_and (C := Tryz.checked) (X := fun w _ => laidMetH Tryz.prog Rows.integerPowersRow.laid w) (fun _ _ _ hh h => h.of_heap hh) own started (by kernel_rfl) Tryz.func6
    (ChangeSpec.witness_shaped (enc := enc) (C := Tryz.checked) (os := os) (X := fun w _ => laidMetH Tryz.prog Rows.integerPowersRow.laid w) false (World.laidAll Tryz.prog os Rows.integerPowersRow.laid) #[.agg #[.bool false, .slice none 0 0], .int .i64 0] 8 (World.laidAll_os _ _ _)
      (World.shaped_of_ZipB (by kernel_rfl) (by kernel_rfl)) (by kernel_rfl) (by kernel_rfl) (by kernel_rfl)
      (by rw [MakeChecks.laidMetH_plain _ _ _ (by kernel_rfl)]; exact laidMet_laidAll _ (by kernel_rfl) (by kernel_rfl))) ?_
  intro W base args ds gs before hval0 hW _ _ hL _
  have hval : ∀ (j : Nat) t v, Tryz.f6.params[j]? = some t → args[j]? = some v → Value.okWide Tryz.prog W .any base t v := hval0
  have hW' := hW
  obtain ⟨p, q, hA0, hV, rfl, _, _⟩ := hW
  have hA : DataW.TrodAll enc Tryz.prog W 0 (fun _ => true) true Tryz.f6.params.toList args.toList ds p := hA0
  rw [Tryz.params6] at hA hval
  obtain ⟨v0, v1, d0, d1, p0, p1, rfl, rfl, rfl, h0, h1⟩ := trodAll_two hA
  obtain ⟨rfl, rfl⟩ := trodVars_none hV
  obtain ⟨m0, A0, cp0, ds0, rfl, hr0, hb0⟩ := open_written (hval 0 24 v0 rfl rfl) h0
  obtain ⟨n1, rfl, rfl, rfl, wn1⟩ := open_int Tryz.underlying3 (hval 1 3 v1 rfl rfl) h1
  have htab := laid_pow W hL
  clear hA0 hval0
  rw [List.append_nil] at hW'
  have hltp : ∀ x ∈ p0 ++ [], x.block < W.heap.size := fun x hx => by simpa using hW'.lt x (by simpa using hx)
  have hc0 : ∀ (W' : World), Below W.heap.size W W' → DataW.Trod enc Tryz.prog W' 0 (fun b => decide (b < W.heap.size)) true 24 (.agg #[.bool m0, .slice A0 ds0.length cp0]) d0 p0 :=
    fun W' hn => Below.trod laidOut (by kernel_rfl) (of_decide_eq_true (by kernel_rfl)) h0 hn (fun x hx => hltp x (by simp [hx]))
  have fin : Calls Tryz.prog 6 #[.agg #[.bool m0, .slice A0 ds0.length cp0], .int .i64 n1] W fun e w' => e = .returned (.bool true) ∧ Below W.heap.size W w' := by
    simp only [Lit.wf, Bool.and_eq_true, decide_eq_true_eq] at wn1
    exact law_powers m0 A0 cp0 ds0 n1 W hr0 hb0 (Int.le_trans (by decide) wn1.1) (Int.le_trans wn1.2 (by decide)) htab
  refine fin.mono fun e W' ⟨he, hb⟩ => ?_
  subst he
  exact ⟨_, rfl, _, _, _, [], p0 ++ [], [], hW', trodAll_mk1 (shut_bool Tryz.underlying4 _), trodAll_mk2 (hc0 W' hb) (shut_int Tryz.underlying3 wn1), rfl, hb.frame _, fun h => by cases h⟩

theorem integerPowers_holds : Rows.IntegerPowersSaid :=
  OpenClaim.holds_of_wide 6 Tryz.f6 rfl rfl rfl rfl rfl rfl rfl ⟨rfl, rfl, rfl, rfl, rfl⟩ rfl rfl rfl rfl rfl (by kernel_rfl) Tryz.func6 (by kernel_rfl)
    (of_decide_eq_true (by kernel_rfl)) (by unfold Func.isWrapper; first | (rw [if_pos (by decide +kernel)]; kernel_rfl) | (rw [if_neg (by decide +kernel)]; exact ⟨rfl, rfl⟩))
    (fun os started H enc _ => integerPowers_lifted os started H enc)

/-- THE CARD. -/
theorem integerPowers_card : Rows.IntegerPowersCardSaid :=
  Claim7.holds_tied_plain_at .later [] [.data, .data, .data, .data, .sentinel, .sentinel, .pinned] true (true, "42bb0bd18d8659f85ca24f2005ecba34303dc51ca49e8e5cee83acccd5af107e") true integerPowers_holds (fun _ h => by cases h) (by kernel_rfl) (fun _ h => by cases h) integerPowers_row_tie rfl ⟨rfl, rfl⟩ (by kernel_rfl) rfl
    (fun f fn hf hfn => by
      obtain rfl : f = 6 := Option.some.inj ((show Tryz.prog.funcNamed "klippe/klippelaw01.IntegerPowers" = some 6 by kernel_rfl).symm.trans hf) |>.symm
      obtain rfl : fn = Tryz.f6 := (Option.some.inj (Tryz.func6.symm.trans hfn)).symm
      exact ⟨by kernel_rfl, fun j t ht => by
        rw [Tryz.params6] at ht
        have hm : t ∈ [24, 3] := by simpa using Array.mem_of_getElem? ht
        have hall : ([24, 3].all fun u => !Tryz.prog.wantsStandIn u) = true := by kernel_rfl
        exact (show Tryz.prog.wantsStandIn t = false by simpa using List.all_eq_true.1 hall t hm)⟩)
    (by kernel_rfl)
#print axioms integerPowers_card

end Go.Proofs.YtpmkhichoepdnaaGreatDoor

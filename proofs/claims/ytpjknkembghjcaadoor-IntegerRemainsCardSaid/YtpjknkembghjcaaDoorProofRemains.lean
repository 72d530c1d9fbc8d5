/- IntegerRemains, proved: for any two described integers of at most 30 digits, quotient times divisor plus remainder is the dividend, the remainder is at least 0 and less than the divisor's magnitude; the square of the root is at most the integer, and the next square is greater. Conditions: the listed package variables of Go's library hold what the program's text lays (the card ties that). -/
import Derived.Test.YtpjknkembghjcaaDoorBaseArg
import Derived.Test.YtpjknkembghjcaaDoorLawRemains
import Derived.Test.YtpjknkembghjcaaDoorCards
set_option linter.unusedVariables false
namespace Go.Proofs.YtpjknkembghjcaaDoor
open Go.ChangeShapes Go.WideShapes Go.ChangeAt Go.RowKit Go.ChangeMaps

set_option maxRecDepth 100000 in
theorem integerRemains_lifted (os : Os) (started : os.Started) (H : Type) (enc : TypeId × Value → H) :
    ReturnsInHanded {} Tryd.checked os 7 .any (fun w args => (Rows.integerRemainsSpec.pre enc Tryd.prog Tryd.f7 Rows.integerRemainsRow.domain false w args ∧ laidMetH Tryd.prog Rows.integerRemainsRow.laid w) ∧ sizedMet enc Tryd.prog Tryd.f7 (OpenSpec.ofChange Rows.integerRemainsSpec) false w args)
      (Rows.integerRemainsSpec.post enc Tryd.prog Tryd.f7 false true false false) := by
  refine returnsInHanded_of_change_and (C := Tryd.checked) (X := fun w _ => laidMetH Tryd.prog Rows.integerRemainsRow.laid w) (fun _ _ _ hh h => h.of_heap hh) own started (by kernel_rfl) Tryd.func7
    (ChangeSpec.witness_shaped (enc := enc) (C := Tryd.checked) (os := os) (X := fun w _ => laidMetH Tryd.prog Rows.integerRemainsRow.laid w) false (World.laidAll Tryd.prog os Rows.integerRemainsRow.laid) #[.agg #[.bool false, .slice none 0 0], .agg #[.bool false, .slice none 0 0]] 8 (World.laidAll_os _ _ _)
      (World.shaped_of_ZipB (by kernel_rfl) (by kernel_rfl)) (by kernel_rfl) (by kernel_rfl) (by kernel_rfl)
      (by rw [MakeChecks.laidMetH_plain _ _ _ (by kernel_rfl)]; exact laidMet_laidAll _ (by kernel_rfl) (by kernel_rfl))) ?_
  intro W base args ds gs before hval0 hW _ _ hL _
  have hval : ∀ (j : Nat) t v, Tryd.f7.params[j]? = some t → args[j]? = some v → Value.okWide Tryd.prog W .any base t v := hval0
  have hW' := hW
  obtain ⟨p, q, hA0, hV, rfl, _, _⟩ := hW
  have hA : DataW.TrodAll enc Tryd.prog W 0 (fun _ => true) true Tryd.f7.params.toList args.toList ds p := hA0
  rw [Tryd.params7] at hA hval
  obtain ⟨v0, v1, d0, d1, p0, p1, rfl, rfl, rfl, h0, h1⟩ := trodAll_two hA
  obtain ⟨rfl, rfl⟩ := trodVars_none hV
  obtain ⟨m0, A0, cp0, ds0, rfl, hr0, hb0⟩ := open_written (hval 0 30 v0 rfl rfl) h0
  obtain ⟨m1, A1, cp1, ds1, rfl, hr1, hb1⟩ := open_written (hval 1 30 v1 rfl rfl) h1
  have htab := laid_pow W hL
  clear hA0 hval0
  simp only [List.append_nil] at hW'
  have hltp : ∀ x ∈ p0 ++ p1, x.block < W.heap.size := fun x hx => by simpa using hW'.lt x (by simpa using hx)
  have hc0 : ∀ (W' : World), Below W.heap.size W W' → DataW.Trod enc Tryd.prog W' 0 (fun b => decide (b < W.heap.size)) true 30 (.agg #[.bool m0, .slice A0 ds0.length cp0]) d0 p0 :=
    fun W' hn => Below.trod laidOut (by kernel_rfl) (of_decide_eq_true (by kernel_rfl)) h0 hn (fun x hx => hltp x (by simp [hx]))
  have hc1 : ∀ (W' : World), Below W.heap.size W W' → DataW.Trod enc Tryd.prog W' 0 (fun b => decide (b < W.heap.size)) true 30 (.agg #[.bool m1, .slice A1 ds1.length cp1]) d1 p1 :=
    fun W' hn => Below.trod laidOut (by kernel_rfl) (of_decide_eq_true (by kernel_rfl)) h1 hn (fun x hx => hltp x (by simp [hx]))
  have fin : Calls Tryd.prog 7 #[.agg #[.bool m0, .slice A0 ds0.length cp0], .agg #[.bool m1, .slice A1 ds1.length cp1]] W fun e w' => e = .returned (.bool true) ∧ Below W.heap.size W w' := by
    rcases Int.lt_or_le (makeVal m0 ds0 30) 0 with ha | ha
    · by_cases hb : makeVal m1 ds1 30 = 0
      · exact law_remains_11 m0 m1 A0 A1 cp0 cp1 ds0 ds1 W hr0 hr1 hb0 hb1 htab ha hb
      · exact law_remains_10 m0 m1 A0 A1 cp0 cp1 ds0 ds1 W hr0 hr1 hb0 hb1 htab ha hb
    · by_cases hb : makeVal m1 ds1 30 = 0
      · exact law_remains_01 m0 m1 A0 A1 cp0 cp1 ds0 ds1 W hr0 hr1 hb0 hb1 htab ha hb
      · exact law_remains_00 m0 m1 A0 A1 cp0 cp1 ds0 ds1 W hr0 hr1 hb0 hb1 htab ha hb
  refine fin.mono fun e W' ⟨he, hb⟩ => ?_
  subst he
  exact ⟨_, rfl, _, _, _, [], p0 ++ p1, [], hW', trodAll_mk1 (shut_bool Tryd.underlying4 _), trodAll_mk2 (hc0 W' hb) (hc1 W' hb), rfl, hb.frame _, fun h => by cases h⟩

theorem integerRemains_holds : Rows.IntegerRemainsSaid :=
  OpenClaim.holds_of_wide 7 Tryd.f7 rfl rfl rfl rfl rfl rfl rfl ⟨rfl, rfl, rfl, rfl, rfl⟩ rfl rfl rfl rfl rfl (by kernel_rfl) Tryd.func7 (by kernel_rfl)
    (of_decide_eq_true (by kernel_rfl)) (by unfold Func.isWrapper; first | (rw [if_pos (by decide +kernel)]; kernel_rfl) | (rw [if_neg (by decide +kernel)]; exact ⟨rfl, rfl⟩))
    (fun os started H enc _ => integerRemains_lifted os started H enc)

/-- THE CARD. -/
theorem integerRemains_card : Rows.IntegerRemainsCardSaid :=
  Claim7.holds_tied_plain_at .later [] [.data, .data, .data, .data, .sentinel, .sentinel, .pinned] true (true, "1bbde1f9d49ff9097c61a04a04b361c936bd9ae00a9cc7fcf810da5a5bc58420") true integerRemains_holds (fun _ h => by cases h) (by kernel_rfl) (fun _ h => by cases h) integerRemains_row_tie rfl ⟨rfl, rfl⟩ (by kernel_rfl) rfl
    (fun f fn hf hfn => by
      obtain rfl : f = 7 := Option.some.inj ((show Tryd.prog.funcNamed "klippe/klippelaw01.IntegerRemains" = some 7 by kernel_rfl).symm.trans hf) |>.symm
      obtain rfl : fn = Tryd.f7 := (Option.some.inj (Tryd.func7.symm.trans hfn)).symm
      exact ⟨by kernel_rfl, fun j t ht => by
        rw [Tryd.params7] at ht
        have hm : t ∈ [30, 30] := by simpa using Array.mem_of_getElem? ht
        have hall : ([30, 30].all fun u => !Tryd.prog.wantsStandIn u) = true := by kernel_rfl
        exact (show Tryd.prog.wantsStandIn t = false by simpa using List.all_eq_true.1 hall t hm)⟩)
    (by kernel_rfl)
#print axioms integerRemains_card

end Go.Proofs.YtpjknkembghjcaaDoor

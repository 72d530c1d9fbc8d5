/- IntegerSums, proved: for any two described integers of at most 70 digits, integer.Add and integer.Sub return the sum and the difference that the reference returns. Conditions: the listed package variables of Go's library hold what the program's text lays (the card ties that). -/
import Derived.Test.YtpmkhichoepdnaaGreatDoorBaseArgZ
import Derived.Test.YtpmkhichoepdnaaGreatDoorLawSums
import Derived.Test.YtpmkhichoepdnaaGreatDoorCards
set_option linter.unusedVariables false
namespace Go.Proofs.YtpmkhichoepdnaaGreatDoor
open Go.ChangeShapes Go.WideShapes Go.ChangeAt Go.RowKit Go.ChangeMaps

set_option maxRecDepth 100000 in
theorem integerSums_lifted (os : Os) (started : os.Started) (H : Type) (enc : TypeId × Value → H) :
    ReturnsInHanded {} Tryz.checked os 7 .any (fun w args => (Rows.integerSumsSpec.pre enc Tryz.prog Tryz.f7 Rows.integerSumsRow.domain false w args ∧ laidMetH Tryz.prog Rows.integerSumsRow.laid w) ∧ sizedMet enc Tryz.prog Tryz.f7 (OpenSpec.ofChange Rows.integerSumsSpec) false w args)
      (Rows.integerSumsSpec.post enc Tryz.prog Tryz.f7 false true false false) := by
  refine returnsInHanded_of_change_and (C := Tryz.checked) (X := fun w _ => laidMetH Tryz.prog Rows.integerSumsRow.laid w) (fun _ _ _ hh h => h.of_heap hh) own started (by kernel_rfl) Tryz.func7
    (ChangeSpec.witness_shaped (enc := enc) (C := Tryz.checked) (os := os) (X := fun w _ => laidMetH Tryz.prog Rows.integerSumsRow.laid w) false (World.laidAll Tryz.prog os Rows.integerSumsRow.laid) #[.agg #[.bool false, .slice none 0 0], .agg #[.bool false, .slice none 0 0]] 8 (World.laidAll_os _ _ _)
      (World.shaped_of_ZipB (by kernel_rfl) (by kernel_rfl)) (by kernel_rfl) (by kernel_rfl) (by kernel_rfl)
      (by rw [MakeChecks.laidMetH_plain _ _ _ (by kernel_rfl)]; exact laidMet_laidAll _ (by kernel_rfl) (by kernel_rfl))) ?_
  intro W base args ds gs before hval0 hW _ _ hL _
  have hval : ∀ (j : Nat) t v, Tryz.f7.params[j]? = some t → args[j]? = some v → Value.okWide Tryz.prog W .any base t v := hval0
  have hW' := hW
  obtain ⟨p, q, hA0, hV, rfl, _, _⟩ := hW
  have hA : DataW.TrodAll enc Tryz.prog W 0 (fun _ => true) true Tryz.f7.params.toList args.toList ds p := hA0
  rw [Tryz.params7] at hA hval
  obtain ⟨v0, v1, d0, d1, p0, p1, rfl, rfl, rfl, h0, h1⟩ := trodAll_two hA
  obtain ⟨rfl, rfl⟩ := trodVars_none hV
  obtain ⟨m0, A0, cp0, ds0, rfl, hr0, hb0⟩ := open_written (hval 0 24 v0 rfl rfl) h0
  obtain ⟨m1, A1, cp1, ds1, rfl, hr1, hb1⟩ := open_written (hval 1 24 v1 rfl rfl) h1
  have htab := laid_pow W hL
  clear hA0 hval0
  simp only [List.append_nil] at hW'
  have hltp : ∀ x ∈ p0 ++ p1, x.block < W.heap.size := fun x hx => by simpa using hW'.lt x (by simpa using hx)
  have hc0 : ∀ (W' : World), Below W.heap.size W W' → DataW.Trod enc Tryz.prog W' 0 (fun b => decide (b < W.heap.size)) true 24 (.agg #[.bool m0, .slice A0 ds0.length cp0]) d0 p0 :=
    fun W' hn => Below.trod laidOut (by kernel_rfl) (of_decide_eq_true (by kernel_rfl)) h0 hn (fun x hx => hltp x (by simp [hx]))
  have hc1 : ∀ (W' : World), Below W.heap.size W W' → DataW.Trod enc Tryz.prog W' 0 (fun b => decide (b < W.heap.size)) true 24 (.agg #[.bool m1, .slice A1 ds1.length cp1]) d1 p1 :=
    fun W' hn => Below.trod laidOut (by kernel_rfl) (of_decide_eq_true (by kernel_rfl)) h1 hn (fun x hx => hltp x (by simp [hx]))
  have fin : Calls Tryz.prog 7 #[.agg #[.bool m0, .slice A0 ds0.length cp0], .agg #[.bool m1, .slice A1 ds1.length cp1]] W fun e w' => e = .returned (.bool true) ∧ Below W.heap.size W w' := by
    exact law_sums m0 m1 A0 A1 cp0 cp1 ds0 ds1 W hr0 hr1 hb0 hb1 htab
  refine fin.mono fun e W' ⟨he, hb⟩ => ?_
  subst he
  exact ⟨_, rfl, _, _, _, [], p0 ++ p1, [], hW', trodAll_mk1 (shut_bool Tryz.underlying4 _), trodAll_mk2 (hc0 W' hb) (hc1 W' hb), rfl, hb.frame _, fun h => by cases h⟩

theorem integerSums_holds : Rows.IntegerSumsSaid :=
  OpenClaim.holds_of_wide 7 Tryz.f7 rfl rfl rfl rfl rfl rfl rfl ⟨rfl, rfl, rfl, rfl, rfl⟩ rfl rfl rfl rfl rfl (by kernel_rfl) Tryz.func7 (by kernel_rfl)
    (of_decide_eq_true (by kernel_rfl)) (by unfold Func.isWrapper; first | (rw [if_pos (by decide +kernel)]; kernel_rfl) | (rw [if_neg (by decide +kernel)]; exact ⟨rfl, rfl⟩))
    (fun os started H enc _ => integerSums_lifted os started H enc)

/-- THE CARD. -/
theorem integerSums_card : Rows.IntegerSumsCardSaid :=
  Claim7.holds_tied_plain_at .later [] [.data, .data, .data, .data, .sentinel, .sentinel, .pinned] true (true, "42bb0bd18d8659f85ca24f2005ecba34303dc51ca49e8e5cee83acccd5af107e") true integerSums_holds (fun _ h => by cases h) (by kernel_rfl) (fun _ h => by cases h) integerSums_row_tie rfl ⟨rfl, rfl⟩ (by kernel_rfl) rfl
    (fun f fn hf hfn => by
      obtain rfl : f = 7 := Option.some.inj ((show Tryz.prog.funcNamed "klippe/klippelaw01.IntegerSums" = some 7 by kernel_rfl).symm.trans hf) |>.symm
      obtain rfl : fn = Tryz.f7 := (Option.some.inj (Tryz.func7.symm.trans hfn)).symm
      exact ⟨by kernel_rfl, fun j t ht => by
        rw [Tryz.params7] at ht
        have hm : t ∈ [24, 24] := by simpa using Array.mem_of_getElem? ht
        have hall : ([24, 24].all fun u => !Tryz.prog.wantsStandIn u) = true := by kernel_rfl
        exact (show Tryz.prog.wantsStandIn t = false by simpa using List.all_eq_true.1 hall t hm)⟩)
    (by kernel_rfl)
#print axioms integerSums_card

end Go.Proofs.YtpmkhichoepdnaaGreatDoor

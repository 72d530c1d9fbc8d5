/- IntegerSigns, proved: for any two described integers of at most 70 digits, integer.Sign, Compare, Neg and Abs return what the reference's return. Conditions: the listed package variables of Go's library hold what the program's text lays (the card ties that). -/
import Derived.Test.YtpmkhichoepdnaaGreatDoorKnown
import Derived.Test.YtpmkhichoepdnaaGreatDoorMake
import Derived.Test.YtpmkhichoepdnaaGreatDoorRefAdd
import Derived.Test.YtpmkhichoepdnaaGreatDoorCompare
import Derived.Test.YtpmkhichoepdnaaGreatDoorSign
import Derived.Test.YtpmkhichoepdnaaGreatDoorNeg
import Derived.Test.YtpmkhichoepdnaaGreatDoorBaseArgZ2
import Derived.Test.YtpmkhichoepdnaaGreatDoorCards
set_option linter.unusedVariables false
set_option linter.unusedSimpArgs false
namespace Go.Proofs.YtpmkhichoepdnaaGreatDoor
open Go.RowKit Go.Lib Go.Proofs.YtpmkhichoepdnaaGreatDoor.Dec Go.Proofs.YtpmkhichoepdnaaGreatDoor.Mag Go.Proofs.YtpmkhichoepdnaaGreatDoor.Chunk

set_option maxHeartbeats 2000000 in
set_option maxRecDepth 100000 in
theorem law_signs (m0 m1 : Bool) (A0 A1 : Option Addr) (c0 c1 : Nat) (d0 d1 : List Int) (w : World)
    (r0 : RdB w A0 d0) (r1 : RdB w A1 d1) (b0 : ∀ k, k < d0.length → 0 ≤ d0.getD k 0 ∧ d0.getD k 0 < 256) (b1 : ∀ k, k < d1.length → 0 ≤ d1.getD k 0 ∧ d1.getD k 0 < 256)
    (htab : TabIs Tryz.prog w "internal/strconv.uint64pow10" .u64 pow10Tab) :
    Calls Tryz.prog 8 #[.agg #[.bool m0, .slice A0 d0.length c0], .agg #[.bool m1, .slice A1 d1.length c1]] w fun e w' => e = .returned (.bool true) ∧ Below w.heap.size w w' := by
  have hM0 := Lib.hid (fun w hr => make_i 70 m0 A0 c0 d0 70 rfl w hr b0 (by decide))
  have hM1 := Lib.hid (fun w hr => make_i 70 m1 A1 c1 d1 70 rfl w hr b1 (by decide))
  have la := makeVal_len m0 d0 70 (by decide)
  have lb := makeVal_len m1 d1 70 (by decide)
  generalize makeVal m0 d0 70 = a at *
  generalize makeVal m1 d1 70 = b at *
  have R0 := Lib.hid (fun w' (h : Below w.heap.size w w') => r0.below h)
  have R1 := Lib.hid (fun w' (h : Below w.heap.size w w') => r1.below h)

  clear b0 b1 r0 r1
  go_enter Tryz.func8, Tryz.ntmps8
  go_wp2_with fail
  generalize hW0 : (w.alloc (.cells #[.bool m0, .slice A0 d0.length c0] 24)).alloc (.cells #[.bool m1, .slice A1 d1.length c1] 24) = W0
  have h0 : Below w.heap.size w W0 := by rw [← hW0]; exact ((Below.refl _ _).alloc (Nat.le_refl _) _).alloc (by simp) _
  have q0 : W0.cell? ⟨w.heap.size, 0, none⟩ = some (.bool m0) := by
    rw [← hW0]; exact (((Below.refl (w.alloc (.cells #[.bool m0, .slice A0 d0.length c0] 24)).heap.size _).alloc (Nat.le_refl _) _).cell (p := ⟨w.heap.size, 0, none⟩) (by simp)).trans (by simp)
  have q1 : W0.cell? ⟨w.heap.size, 1, none⟩ = some (.slice A0 d0.length c0) := by
    rw [← hW0]; exact (((Below.refl (w.alloc (.cells #[.bool m0, .slice A0 d0.length c0] 24)).heap.size _).alloc (Nat.le_refl _) _).cell (p := ⟨w.heap.size, 1, none⟩) (by simp)).trans (by simp)
  have q2 : W0.cell? ⟨w.heap.size + 1, 0, none⟩ = some (.bool m1) := by
    rw [← hW0]
    have e : w.heap.size + 1 = (w.alloc (.cells #[.bool m0, .slice A0 d0.length c0] 24)).heap.size := by simp
    rw [e]; exact World.cell?_alloc_new _ _ _ _
  have q3 : W0.cell? ⟨w.heap.size + 1, 1, none⟩ = some (.slice A1 d1.length c1) := by
    rw [← hW0]
    have e : w.heap.size + 1 = (w.alloc (.cells #[.bool m0, .slice A0 d0.length c0] 24)).heap.size := by simp
    rw [e]; exact World.cell?_alloc_new _ _ _ _
  have hs0 : w.heap.size + 2 ≤ W0.heap.size := by rw [← hW0]; simp
  clear hW0
  refine (known_n _ (tab_below htab h0)).mono ?_
  rintro e W1 ⟨rfl, h1⟩
  have bb := h0.trans (h1.mono h0.size)
  have hS := Lib.hid (show ∀ w', Below W0.heap.size W0 w' → (w'.cell? ⟨w.heap.size, 0, none⟩ = some (.bool m0) ∧ w'.cell? ⟨w.heap.size, 1, none⟩ = some (.slice A0 d0.length c0) ∧ w'.cell? ⟨w.heap.size + 1, 0, none⟩ = some (.bool m1) ∧ w'.cell? ⟨w.heap.size + 1, 1, none⟩ = some (.slice A1 d1.length c1)) from fun w' h =>
    ⟨(h.cell (p := ⟨w.heap.size, 0, none⟩) (by show w.heap.size < W0.heap.size; omega)).trans q0, (h.cell (p := ⟨w.heap.size, 1, none⟩) (by show w.heap.size < W0.heap.size; omega)).trans q1, (h.cell (p := ⟨w.heap.size + 1, 0, none⟩) (by show w.heap.size + 1 < W0.heap.size; omega)).trans q2, (h.cell (p := ⟨w.heap.size + 1, 1, none⟩) (by show w.heap.size + 1 < W0.heap.size; omega)).trans q3⟩)
  clear q0 q1 q2 q3 hs0
  have hk0 : Below W0.heap.size W0 W1.drew := h1.drew
  have bd : Below w.heap.size w W1.drew := bb.drew
  go_wp2_with fail
  go_region_held3 (fun w' => w'.cell? ⟨w.heap.size, 0, none⟩ = some (.bool m0) ∧ w'.cell? ⟨w.heap.size, 1, none⟩ = some (.slice A0 d0.length c0) ∧ w'.cell? ⟨w.heap.size + 1, 0, none⟩ = some (.bool m1) ∧ w'.cell? ⟨w.heap.size + 1, 1, none⟩ = some (.slice A1 d1.length c1)) (exact hS.out _ (by assumption)) (first
    | (go_at_call 10; (with_reducible refine (hM0.out _ (R0.out _ (by assumption))).mono ?_); rintro e w2 ⟨rfl, h2⟩; have bd := bd.trans (h2.mono bd.size); have hk0 := hk0.trans (h2.mono hk0.size))
    | (go_at_call 10; (with_reducible refine (hM1.out _ (R1.out _ (by assumption))).mono ?_); rintro e w2 ⟨rfl, h2⟩; have bd := bd.trans (h2.mono bd.size); have hk0 := hk0.trans (h2.mono hk0.size)))
  all_goals
    clear hS hM0 hM1 R0 R1 hk0
    go_wp2_with (first
      | (go_at_call 27; (with_reducible refine (sign_n a _ ).mono ?_); rintro e w3 ⟨rfl, h3⟩; subst h3)
      | (go_at_call 19; (with_reducible refine (ref_sign_n a _ (by omega)).mono ?_); rintro e w3 ⟨rfl, h3⟩; have bd := bd.trans (h3.mono bd.size))
      | (go_at_call 28; (with_reducible refine (compare_n a b _ (by omega) (by omega)).mono ?_); rintro e w3 ⟨rfl, h3⟩; subst h3)
      | (go_at_call 29; (with_reducible refine (ref_compare_n a b _ (by omega) (by omega) (tab_below htab bd)).mono ?_); rintro e w3 ⟨rfl, h3⟩; have bd := bd.trans (h3.mono bd.size))
      | (go_at_call 30; (with_reducible refine (neg_n a _ (by omega)).mono ?_); rintro e w3 ⟨rfl, h3⟩; subst h3)
      | (go_at_call 31; (with_reducible refine (ref_neg_n a _ (by omega)).mono ?_); rintro e w3 ⟨rfl, h3⟩; have h3 := below_dn h3; have bd := bd.trans (h3.mono bd.size))
      | (go_at_call 32; (with_reducible refine (abs_n a _ ).mono ?_); rintro e w3 ⟨rfl, h3⟩; subst h3)
      | (go_at_call 22; (with_reducible refine (ref_abs_n a _ (by omega)).mono ?_); rintro e w3 ⟨rfl, h3⟩; have bd := bd.trans (h3.mono bd.size)))
    all_goals (go_ret)
    all_goals (exact ⟨by simp, bd⟩)

end Go.Proofs.YtpmkhichoepdnaaGreatDoor

set_option linter.unusedVariables false
namespace Go.Proofs.YtpmkhichoepdnaaGreatDoor
open Go.ChangeShapes Go.WideShapes Go.ChangeAt Go.RowKit Go.ChangeMaps

set_option maxRecDepth 100000 in
theorem integerSigns_lifted (os : Os) (started : os.Started) (H : Type) (enc : TypeId × Value → H) :
    ReturnsInHanded {} Tryz.checked os 8 .any (fun w args => (Rows.integerSignsSpec.pre enc Tryz.prog Tryz.f8 Rows.integerSignsRow.domain false w args ∧ laidMetH Tryz.prog Rows.integerSignsRow.laid w) ∧ sizedMet enc Tryz.prog Tryz.f8 (OpenSpec.ofChange Rows.integerSignsSpec) false w args)
      (Rows.integerSignsSpec.post enc Tryz.prog Tryz.f8 false true false false) := by
  refine returnsInHanded_of_change_and (C := Tryz.checked) (X := fun w _ => laidMetH Tryz.prog Rows.integerSignsRow.laid w) (fun _ _ _ hh h => h.of_heap hh) own started (by kernel_rfl) Tryz.func8
    (ChangeSpec.witness_shaped (enc := enc) (C := Tryz.checked) (os := os) (X := fun w _ => laidMetH Tryz.prog Rows.integerSignsRow.laid w) false (World.laidAll Tryz.prog os Rows.integerSignsRow.laid) #[.agg #[.bool false, .slice none 0 0], .agg #[.bool false, .slice none 0 0]] 8 (World.laidAll_os _ _ _)
      (World.shaped_of_ZipB (by kernel_rfl) (by kernel_rfl)) (by kernel_rfl) (by kernel_rfl) (by kernel_rfl)
      (by rw [MakeChecks.laidMetH_plain _ _ _ (by kernel_rfl)]; exact laidMet_laidAll _ (by kernel_rfl) (by kernel_rfl))) ?_
  intro W base args ds gs before hval0 hW _ _ hL _
  have hval : ∀ (j : Nat) t v, Tryz.f8.params[j]? = some t → args[j]? = some v → Value.okWide Tryz.prog W .any base t v := hval0
  have hW' := hW
  obtain ⟨p, q, hA0, hV, rfl, _, _⟩ := hW
  have hA : DataW.TrodAll enc Tryz.prog W 0 (fun _ => true) true Tryz.f8.params.toList args.toList ds p := hA0
  rw [Tryz.params8] at hA hval
  obtain ⟨v0, v1, d0, d1, p0, p1, rfl, rfl, rfl, h0, h1⟩ := trodAll_two hA
  obtain ⟨rfl, rfl⟩ := trodVars_none hV
  obtain ⟨m0, A0, cp0, ds0, rfl, hr0, hb0⟩ := open_written (hval 0 24 v0 rfl rfl) h0
  obtain ⟨m1, A1, cp1, ds1, rfl, hr1, hb1⟩ := open_written (hval 1 24 v1 rfl rfl) h1
  have htab := laid_pow W hL
  clear hA0 hval0
  simp only [List.append_nil] at hW'
  have hltp : ∀ x ∈ p0 ++ p1, x.block < W.heap.size := fun x hx => by simpa using hW'.lt x (by simpa using hx)
  have hc0 : ∀ (W' : World), Below W.heap.size W W' → DataW.Trod enc Tryz.prog W' 0 (fun b => decide (b < W.heap.size)) true 24 (.agg #[.bool m0, .slice A0 ds0.length cp0]) d0 p0 :=
    fun W' hn => Below.trod laidOut (by kernel_rfl) (of_decide_eq_true (by kernel_rfl)) h0 hn (fun x hx => hltp x (by simp [hx]))
  have hc1 : ∀ (W' : World), Below W.heap.size W W' → DataW.Trod enc Tryz.prog W' 0 (fun b => decide (b < W.heap.size)) true 24 (.agg #[.bool m1, .slice A1 ds1.length cp1]) d1 p1 :=
    fun W' hn => Below.trod laidOut (by kernel_rfl) (of_decide_eq_true (by kernel_rfl)) h1 hn (fun x hx => hltp x (by simp [hx]))
  have fin : Calls Tryz.prog 8 #[.agg #[.bool m0, .slice A0 ds0.length cp0], .agg #[.bool m1, .slice A1 ds1.length cp1]] W fun e w' => e = .returned (.bool true) ∧ Below W.heap.size W w' := by
    exact law_signs m0 m1 A0 A1 cp0 cp1 ds0 ds1 W hr0 hr1 hb0 hb1 htab
  refine fin.mono fun e W' ⟨he, hb⟩ => ?_
  subst he
  exact ⟨_, rfl, _, _, _, [], p0 ++ p1, [], hW', trodAll_mk1 (shut_bool Tryz.underlying4 _), trodAll_mk2 (hc0 W' hb) (hc1 W' hb), rfl, hb.frame _, fun h => by cases h⟩

theorem integerSigns_holds : Rows.IntegerSignsSaid :=
  OpenClaim.holds_of_wide 8 Tryz.f8 rfl rfl rfl rfl rfl rfl rfl ⟨rfl, rfl, rfl, rfl, rfl⟩ rfl rfl rfl rfl rfl (by kernel_rfl) Tryz.func8 (by kernel_rfl)
    (of_decide_eq_true (by kernel_rfl)) (by unfold Func.isWrapper; first | (rw [if_pos (by decide +kernel)]; kernel_rfl) | (rw [if_neg (by decide +kernel)]; exact ⟨rfl, rfl⟩))
    (fun os started H enc _ => integerSigns_lifted os started H enc)

/-- THE CARD. -/
theorem integerSigns_card : Rows.IntegerSignsCardSaid :=
  Claim7.holds_tied_plain_at .later [] [.data, .data, .data, .data, .sentinel, .sentinel, .pinned] true (true, "42bb0bd18d8659f85ca24f2005ecba34303dc51ca49e8e5cee83acccd5af107e") true integerSigns_holds (fun _ h => by cases h) (by kernel_rfl) (fun _ h => by cases h) integerSigns_row_tie rfl ⟨rfl, rfl⟩ (by kernel_rfl) rfl
    (fun f fn hf hfn => by
      obtain rfl : f = 8 := Option.some.inj ((show Tryz.prog.funcNamed "klippe/klippelaw01.IntegerSigns" = some 8 by kernel_rfl).symm.trans hf) |>.symm
      obtain rfl : fn = Tryz.f8 := (Option.some.inj (Tryz.func8.symm.trans hfn)).symm
      exact ⟨by kernel_rfl, fun j t ht => by
        rw [Tryz.params8] at ht
        have hm : t ∈ [24, 24] := by simpa using Array.mem_of_getElem? ht
        have hall : ([24, 24].all fun u => !Tryz.prog.wantsStandIn u) = true := by kernel_rfl
        exact (show Tryz.prog.wantsStandIn t = false by simpa using List.all_eq_true.1 hall t hm)⟩)
    (by kernel_rfl)
#print axioms integerSigns_card

end Go.Proofs.YtpmkhichoepdnaaGreatDoor

/- integer.divide by a divisor of one piece: the walk. -/
import Derived.Test.YtpjknkembghjcaaGreatDoorDivide2
import Derived.Test.YtpjknkembghjcaaGreatDoorRegion
import Derived.Test.YtpjknkembghjcaaGreatDoorAppend
import Derived.Test.YtpjknkembghjcaaGreatDoorDivide1
import Derived.Deep.RegionWith
import Derived.Deep.RegionHeld3
namespace Go.Proofs.YtpjknkembghjcaaGreatDoor
open Go.RowKit Mag Go.Shelf

attribute [local go_sem] Oper.semAt_some

/-- 'make([]T, n)' inside a fence: n zero elements are owned. -/
theorem listIn_make_full {F : Fence} {n : Nat} {P : Program} (w : World) {ops : Array Oper} {rest : List Oper} {o : Oper} {a : Act} {Q : Exit → Act → World → Prop}
    (hg : o.guard = none) (l c : Operand) (t : TypeId) (hop : o.op = Op.makeSlice t l c)
    (base : Nat) (e : TypeId) (i : TypeInfo) (z : Value) (size : Nat) (h1 : P.underlying t = some (.slice e)) (h2 : P.info? e = some i) (h3 : i.zero = some z) (h4 : i.size = size)
    (kl kc : IntKind) (L C : Int) (m : Nat) (hl : a.eval l = .int kl L) (hc : a.eval c = .int kc C) (hL : L = (m : Int)) (hC : C = (m : Int)) (b2 : i.bytes * m ≤ 281474976710656) (b3 : m ≤ maxLen) (b4 : base ≤ w.heap.size)
    (hK : ∀ w', w'.ownsRow base e size (.slice (some ⟨w.heap.size, 0, none⟩) m m) m (madeCells z.cells (m * size)).toList → w.grownBy w' none → wpListIn F n P ops Q rest (a.put o.dst (.slice (some ⟨w.heap.size, 0, none⟩) m m)) w') :
    wpListIn F n P ops Q (o :: rest) a w := by
  refine wpListIn_plain hg fun K hK' => ?_
  obtain ⟨w', hrun, r1, r2⟩ := run_make_full (P := P) w base t e i z size h1 h2 h3 h4 kl kc m b2 b3 b4
  subst hL
  subst hC
  unfold Oper.wpIn
  refine ⟨?_, ?_⟩
  · simp [Oper.about, hop]
  · rw [Oper.semAt_plain F _ _ (by rw [hop]; intro c hc'; cases hc')]
    simp [execOp, hop, hl, hc, hrun, Result.andThen]
    exact hK' _ _ (hK w' r1 r2)

set_option linter.unusedSimpArgs false in
set_option maxHeartbeats 4000000 in
set_option maxRecDepth 100000 in
theorem divide_one_at (A A' : Option Addr) (ca cb : Nat) (xs : List Int) (b0 : Int) (w : World) (hx : Rd w .u64 A xs) (hy : Rd w .u64 A' [b0]) (hl : xs.length ≤ 1000000) (hp : Pcs 1000000000 xs) (ht : Trm xs) (p0 : 0 < b0) (p1 : b0 < 1000000000)
    (hca : xs.length ≤ ca) (hcb : 1 ≤ cb) (hle : b0 ≤ pv 1000000000 xs) :
    Calls Tryz.prog 37 #[.slice A xs.length ca, .slice A' 1 cb] w fun e w' => ∃ q r, e = .returned (.tuple #[q, r]) ∧ MgN w.heap.size w' q (pv 1000000000 xs / b0) ∧ Mg w' r (pv 1000000000 xs % b0) ∧ Below w.heap.size w w' := by
  obtain ⟨i0, hi, hz0, hz1, hz2⟩ := info_parts info_u64
  have hb : Below w.heap.size w ((w.alloc (.cells #[.slice A' 1 cb] 49)).alloc (.cells #[.slice none 0 0] 49)) := ((Below.refl _ _).alloc (Nat.le_refl _) _).alloc (by simp) _
  have hO : 0 ≤ cmpI (pv 1000000000 xs) b0 := by
    rcases Int.lt_or_eq_of_le hle with h | h
    · rw [cmpI_gt h]; omega
    · rw [cmpI_eq h.symm]; omega
  have HX := Lib.hid (show Mg _ (.slice A xs.length ca) (pv 1000000000 xs) from ⟨A, _, ca, xs, rfl, rfl, hca, hx.below (Nat.le_refl _) hb, hp, ht, rfl⟩)
  have HY := Lib.hid (show Mg _ (.slice A' 1 cb) b0 from ⟨A', 1, cb, [b0], rfl, rfl, hcb, hy.below (Nat.le_refl _) hb, Pcs.cons ⟨by omega, p1⟩ Pcs.nil, fun h => by simp; omega, pv_one _ _⟩)
  have HLE := Lib.hid hle
  clear hle
  obtain ⟨F, hF⟩ : ∃ F : Fence, F = Fence.wide := ⟨_, rfl⟩
  refine (callsIn_wide (n := 3)).1 ?_
  refine callsIn_of_wp_marks Tryz.func37 rfl trivial ?_ rfl
  simp only [Tryz.ntmps37, List.size_toArray, List.length_cons, List.length_nil, Nat.reduceAdd, Nat.reduceSub, Array.replicate_succ, Array.replicate_zero, List.push_toArray, List.append_toArray, List.nil_append, List.cons_append]
  gi_wp2_with (refine ⟨trivial, ?_⟩; gi_at_call 53; refine (callsIn_wide.2 (order_mg _ _ _ _ _ HX.out HY.out)).mono ?_; rintro e w' ⟨rfl, k, rfl⟩; refine Hid.out ?_)
  refine Lib.hid ?_
  have hb0 := below_drewN hb k
  have bB : Boxed (((w.alloc (.cells #[.slice A' 1 cb] 49)).alloc (.cells #[.slice none 0 0] 49)).drewN k) w.heap.size 49 (.slice A' 1 cb) := (Boxed.new w _ _).alloc _
  have bQ : Boxed (((w.alloc (.cells #[.slice A' 1 cb] 49)).alloc (.cells #[.slice none 0 0] 49)).drewN k) (w.heap.size + 1) 49 (.slice none 0 0) := by
    have := Boxed.new (w.alloc (.cells #[.slice A' 1 cb] 49)) 49 (.slice none 0 0)
    rwa [World.size_alloc] at this
  have hs0 : (((w.alloc (.cells #[.slice A' 1 cb] 49)).alloc (.cells #[.slice none 0 0] 49)).drewN k).heap.size = w.heap.size + 2 := by simp
  clear HX HY hb
  generalize (((w.alloc (.cells #[.slice A' 1 cb] 49)).alloc (.cells #[.slice none 0 0] 49)).drewN k) = W0 at *
  have HS0 := Lib.hid hs0
  clear hs0
  have cB := bB.cell
  gi_wp2_with (gi_at_make; refine listIn_make_full _ rfl _ _ 49 rfl (w.heap.size + 2) 56 i0 (.int .u64 0) 1 Tryz.underlying49 hi hz0 hz1 _ _ _ _ xs.length rfl rfl rfl rfl (by rw [hz2]; omega) (by unfold maxLen; omega) (by have := HS0.out; omega) ?_; intro w1 hown1 hgrow1; refine Hid.out ?_)
  refine Lib.hid ?_
  have hb1 : Below w.heap.size w w1 := hb0.grown hgrow1 (by have := HS0.out; omega) (fun j e => by cases e)
  have bB1 := bB.kept hgrow1 (by simp)
  have bQ1 := bQ.kept hgrow1 (by simp)
  clear cB bB bQ hb0
  generalize W0.heap.size = g at *
  have cB := bB1.cell
  have cQ := bQ1.cell
  have fQ := bQ1.frozen
  gi_wp2_with (refine ⟨trivial, ?_⟩; gi_at_call 64; refine (backward_in Fence.wide _ trivial rfl _ _ _ _).mono ?_; rintro e w' ⟨rfl, rfl⟩; refine Hid.out ?_)
  refine Lib.hid ?_
  have hrow1 : w1.ownsRow (w.heap.size + 2) 56 1 (.slice (some ⟨g, 0, none⟩) xs.length xs.length) xs.length ((List.replicate xs.length (0 : Int)).map (Value.int .u64)) := by
    simpa [toList_madeCells_one, Value.cells] using hown1
  clear hown1 hgrow1 cB cQ fQ
  have hg2 : w.heap.size + 2 ≤ g := (hrow1.lt g (by simp [Value.ownBlock])).1
  have hg3 : g < w1.heap.size := (hrow1.lt g (by simp [Value.ownBlock])).2
  generalize hW2 : (((w1.setCell ⟨w.heap.size + 1, 0, none⟩ (.slice (some ⟨g, 0, none⟩) xs.length xs.length)).alloc (.cells #[.int .u64 0] 56)).alloc (.cells #[.slice A xs.length ca] 49)) = W2
  have hr2 : w1.heap.size + 2 = W2.heap.size := by rw [← hW2]; simp
  have hb2 : Below w.heap.size w W2 := by
    rw [← hW2]
    exact ((hb1.setCell (p := ⟨w.heap.size + 1, 0, none⟩) (by show w.heap.size ≤ w.heap.size + 1; omega) _).alloc (by simp; omega) _).alloc (by simp; omega) _
  have bB2 : Boxed W2 w.heap.size 49 (.slice A' 1 cb) := by
    rw [← hW2]; exact ((bB1.other (by omega) _).alloc _).alloc _
  have bQ2 : Boxed W2 (w.heap.size + 1) 49 (.slice (some ⟨g, 0, none⟩) xs.length xs.length) := by
    rw [← hW2]; exact ((bQ1.set _).alloc _).alloc _
  have bR2 : Boxed W2 w1.heap.size 56 (.int .u64 0) := by
    rw [← hW2]
    have := (Boxed.new (w1.setCell ⟨w.heap.size + 1, 0, none⟩ (.slice (some ⟨g, 0, none⟩) xs.length xs.length)) 56 (.int .u64 0)).alloc (.cells #[.slice A xs.length ca] 49)
    simpa using this
  have bS2 : Boxed W2 (w1.heap.size + 1) 49 (.slice A xs.length ca) := by
    rw [← hW2]
    have := Boxed.new ((w1.setCell ⟨w.heap.size + 1, 0, none⟩ (.slice (some ⟨g, 0, none⟩) xs.length xs.length)).alloc (.cells #[.int .u64 0] 56)) 49 (.slice A xs.length ca)
    simpa using this
  have hrow2 : W2.ownsRow (w.heap.size + 2) 56 1 (.slice (some ⟨g, 0, none⟩) xs.length xs.length) xs.length ((List.replicate xs.length (0 : Int)).map (Value.int .u64)) := by
    rw [← hW2]
    exact ((ownsRow_setCell_below hrow1 (by show w.heap.size + 1 < w.heap.size + 2; omega) _).alloc _).alloc _
  have hx2 : Rd W2 .u64 A xs := hx.below (Nat.le_refl _) hb2
  have hAb : ∀ b o, A = some ⟨b, o, none⟩ → 0 < xs.length → b < w.heap.size := fun b o e h0 => by
    obtain ⟨b', o', e', hb', _⟩ := hx.2 h0
    rw [e] at e'
    cases e'
    exact hb'
  clear hW2 bB1 bQ1 hrow1 hb1
  generalize w1.heap.size = r at *
  gi_wp2
  apply wpIn_rangeFunc_ownG (F := Fence.wide) (n := 3) rfl (by omega) (gf := 86) (lb := #[.pointer (some ⟨r + 1, 0, none⟩)]) rfl trivial (enters_of Tryz.func86 (by kernel_rfl) rfl)
    (backward_stops Fence.wide 2 trivial rfl (by omega) (r + 1) w.heap.size A xs.length ca xs hp W2 rfl (by omega) bS2.cell hx2 hAb) (fun h k => KpR.trans h k) (KpR.put (by omega) (by omega)) (Below.refl _ _) (fun _ => rfl)
    (fun pre W => ((∃ v, Boxed W (w.heap.size + 1) 49 v ∧ W.ownsRow (w.heap.size + 2) 56 1 v xs.length ((dst b0 pre).1.map (Value.int .u64)) ∧ v = .slice (some ⟨g, 0, none⟩) xs.length xs.length) ∧
      Boxed W r 56 (.int .u64 (dst b0 pre).2)) ∧ (Boxed W w.heap.size 49 (.slice A' 1 cb) ∧ Boxed W (r + 1) 49 (.slice A xs.length ca)) ∧ Below w.heap.size w W)
    (fun _ _ _ => False)
    (OwnFrom.and (OwnFrom.and ((holdsRow_own (w.heap.size + 2) (w.heap.size + 1) 49 56 1 (fun _ => xs.length) (fun pre => (dst b0 pre).1.map (Value.int .u64)) (fun _ v => v = .slice (some ⟨g, 0, none⟩) xs.length xs.length)).from _) ((boxed_own r 56 _).from _))
      (OwnFrom.and (OwnFrom.and ((boxed_own _ _ _).from _) ((boxed_own _ _ _).from _)) (ownFrom_below (Nat.le_refl _) (by omega))))
    (fun _ _ _ _ _ hs _ _ => hs)
    ⟨⟨⟨_, bQ2, hrow2, rfl⟩, bR2⟩, ⟨bB2, bS2⟩, hb2⟩
  case hassign =>
    intro l x W K hK
    gi_wp2
    exact hK
  case hbody =>
    rintro l pre ⟨⟨i, x⟩, hi1, hx0, hx1⟩ W ⟨⟨⟨v, hQ, hrow, rfl⟩, hR⟩, ⟨hB, hS⟩, hbl⟩ _
    obtain ⟨d1, d2, d3, d4⟩ := dst_inv p0 p1 pre
    have HS := Lib.hid (dst_snoc b0 pre ⟨(i, x), hi1, hx0, hx1⟩)
    generalize dst b0 pre = s at *
    obtain ⟨os, rr⟩ := s
    simp only at hrow hR d1 d2 d3 d4
    have D1 := Lib.hid d1
    clear d1
    obtain ⟨b', off', rfl, hbw', hcb'⟩ := hy.2 (by simp)
    have cb0 : W.cell? ⟨b', off', none⟩ = some (.int .u64 b0) := by
      have := (hbl.cell (p := ⟨b', off' + 0, none⟩) hbw').trans (hcb' 0 (by simp))
      simpa using this
    have cR := hR.cell
    have fR := hR.frozen
    have cQ := hQ.cell
    have cB := hB.cell
    have fq := hrow.frozenAt i
    have cq : W.cell? ⟨g, i, none⟩ = some (.int .u64 (os.getD i 0)) := by
      rw [hrow.cellAt i (by omega), List.getElem?_map, List.getD_eq_getElem?_getD, List.getElem?_eq_getElem (by have := D1.out; omega)]; rfl
    have hm0 : 0 ≤ (rr * 1000000000 + x) % b0 := Int.emod_nonneg _ (by omega)
    have hm1 : (rr * 1000000000 + x) % b0 < b0 := Int.emod_lt_of_pos _ p0
    have n1 : g ≠ r := by omega
    have n2 : w.heap.size ≠ r := by omega
    have n3 : w.heap.size + 1 ≠ r := by omega
    have n4 : b' ≠ r := by omega
    have n5 : b' ≠ g := by omega
    have n6 : w.heap.size ≠ g := by omega
    have n7 : w.heap.size + 1 ≠ g := by omega
    gi_wp2
    refine region_begin (last := 14) (S := fun W' => W'.cell? ⟨r, 0, none⟩ = some (.int .u64 (rr * 1000000000 + x)) ∧ W'.cell? ⟨w.heap.size, 0, none⟩ = some (.slice (some ⟨b', off', none⟩) 1 cb) ∧
      W'.cell? ⟨w.heap.size + 1, 0, none⟩ = some (.slice (some ⟨g, 0, none⟩) xs.length xs.length) ∧ W'.cell? ⟨b', off', none⟩ = some (.int .u64 b0)) (by kernel_rfl) (by kernel_rfl) (by kernel_rfl) ?hS ?_
    case hS => exact ⟨by go_simp, by go_simp, by go_simp, by go_simp⟩
    intro hpl hla hS0
    refine T_take (i := 0) (d := 33) (v := .slice (some ⟨g, 0, none⟩) xs.length xs.length) hpl hla ‹_› rfl (by decide) (by kernel_rfl) (by kernel_rfl) (fun _ _ _ h => h) ⟨rfl, fun w' hS' => ⟨(by obtain ⟨s1, s2, s3, s4⟩ := hS'; go_simp), rfl⟩⟩ rfl ?_
    simp only [List.setIfInBounds_toArray, List.set_cons_succ, List.set_cons_zero]
    refine T_take (i := 1) (d := 34) (v := .int .i64 i) hpl hla ‹_› rfl (by decide) (by kernel_rfl) (by kernel_rfl) (fun _ _ _ h => h) ⟨rfl, fun w' hS' => ⟨(by obtain ⟨s1, s2, s3, s4⟩ := hS'; go_simp), rfl⟩⟩ rfl ?_
    simp only [List.setIfInBounds_toArray, List.set_cons_succ, List.set_cons_zero]
    refine T_take (i := 2) (d := 35) (v := .int .u64 (rr * 1000000000 + x)) hpl hla ‹_› rfl (by decide) (by kernel_rfl) (by kernel_rfl) (fun _ _ _ h => h) ⟨rfl, fun w' hS' => ⟨(by obtain ⟨s1, s2, s3, s4⟩ := hS'; go_simp), rfl⟩⟩ rfl ?_
    simp only [List.setIfInBounds_toArray, List.set_cons_succ, List.set_cons_zero]
    refine T_take (i := 3) (d := 36) (v := .slice (some ⟨b', off', none⟩) 1 cb) hpl hla ‹_› rfl (by decide) (by kernel_rfl) (by kernel_rfl) (fun _ _ _ h => h) ⟨rfl, fun w' hS' => ⟨(by obtain ⟨s1, s2, s3, s4⟩ := hS'; go_simp), rfl⟩⟩ rfl ?_
    simp only [List.setIfInBounds_toArray, List.set_cons_succ, List.set_cons_zero]
    refine T_take (i := 4) (d := 37) (v := .pointer (some ⟨b', off', none⟩)) hpl hla ‹_› rfl (by decide) (by kernel_rfl) (by kernel_rfl) (fun _ _ _ h => h) ⟨rfl, fun w' hS' => ⟨(by obtain ⟨s1, s2, s3, s4⟩ := hS'; go_simp), rfl⟩⟩ rfl ?_
    simp only [List.setIfInBounds_toArray, List.set_cons_succ, List.set_cons_zero]
    refine T_take (i := 5) (d := 38) (v := .int .u64 b0) hpl hla ‹_› rfl (by decide) (by kernel_rfl) (by kernel_rfl) (fun _ _ _ h => h) ⟨rfl, fun w' hS' => ⟨(by obtain ⟨s1, s2, s3, s4⟩ := hS'; go_simp), rfl⟩⟩ rfl ?_
    simp only [List.setIfInBounds_toArray, List.set_cons_succ, List.set_cons_zero]
    refine T_take (i := 6) (d := 39) (v := .int .u64 ((rr * 1000000000 + x) / b0)) hpl hla ‹_› rfl (by decide) (by kernel_rfl) (by kernel_rfl) (fun _ _ _ h => h) ⟨rfl, fun w' hS' => ⟨(by obtain ⟨s1, s2, s3, s4⟩ := hS'; go_simp; rw [if_neg (by omega), IntWalk.u64_quo _ _ ⟨by omega, by omega, by omega⟩]), rfl⟩⟩ rfl ?_
    simp only [List.setIfInBounds_toArray, List.set_cons_succ, List.set_cons_zero]
    refine T_take (i := 7) (d := 40) (v := .int .u64 (rr * 1000000000 + x)) hpl hla ‹_› rfl (by decide) (by kernel_rfl) (by kernel_rfl) (fun _ _ _ h => h) ⟨rfl, fun w' hS' => ⟨(by obtain ⟨s1, s2, s3, s4⟩ := hS'; go_simp), rfl⟩⟩ rfl ?_
    simp only [List.setIfInBounds_toArray, List.set_cons_succ, List.set_cons_zero]
    refine T_take (i := 8) (d := 41) (v := .slice (some ⟨b', off', none⟩) 1 cb) hpl hla ‹_› rfl (by decide) (by kernel_rfl) (by kernel_rfl) (fun _ _ _ h => h) ⟨rfl, fun w' hS' => ⟨(by obtain ⟨s1, s2, s3, s4⟩ := hS'; go_simp), rfl⟩⟩ rfl ?_
    simp only [List.setIfInBounds_toArray, List.set_cons_succ, List.set_cons_zero]
    refine T_take (i := 9) (d := 42) (v := .pointer (some ⟨b', off', none⟩)) hpl hla ‹_› rfl (by decide) (by kernel_rfl) (by kernel_rfl) (fun _ _ _ h => h) ⟨rfl, fun w' hS' => ⟨(by obtain ⟨s1, s2, s3, s4⟩ := hS'; go_simp), rfl⟩⟩ rfl ?_
    simp only [List.setIfInBounds_toArray, List.set_cons_succ, List.set_cons_zero]
    refine T_take (i := 10) (d := 43) (v := .int .u64 b0) hpl hla ‹_› rfl (by decide) (by kernel_rfl) (by kernel_rfl) (fun _ _ _ h => h) ⟨rfl, fun w' hS' => ⟨(by obtain ⟨s1, s2, s3, s4⟩ := hS'; go_simp), rfl⟩⟩ rfl ?_
    simp only [List.setIfInBounds_toArray, List.set_cons_succ, List.set_cons_zero]
    refine T_take (i := 11) (d := 44) (v := .int .u64 ((rr * 1000000000 + x) % b0)) hpl hla ‹_› rfl (by decide) (by kernel_rfl) (by kernel_rfl) (fun _ _ _ h => h) ⟨rfl, fun w' hS' => ⟨(by obtain ⟨s1, s2, s3, s4⟩ := hS'; go_simp; rw [if_neg (by omega), IntWalk.rem_in _ _ (by omega)]), rfl⟩⟩ rfl ?_
    simp only [List.setIfInBounds_toArray, List.set_cons_succ, List.set_cons_zero]
    refine T_take (i := 12) (d := 45) (v := .pointer (some ⟨g, i, none⟩)) hpl hla ‹_› rfl (by decide) (by kernel_rfl) (by kernel_rfl) (fun _ _ _ h => h) ⟨rfl, fun w' hS' => ⟨(by obtain ⟨s1, s2, s3, s4⟩ := hS'; go_simp), rfl⟩⟩ rfl ?_
    simp only [List.setIfInBounds_toArray, List.set_cons_succ, List.set_cons_zero]
    refine T_store (i := 13) (w' := ((W.setCell ⟨r, 0, none⟩ (.int .u64 (rr * 1000000000 + x))).drew.setCell ⟨g, i, none⟩ (.int .u64 ((rr * 1000000000 + x) / b0)))) hpl rfl (by kernel_rfl) rfl rfl rfl (by go_simp) (.inr ⟨by go_simp, by go_simp, by go_simp, by go_simp⟩) ?_
    refine T_store (i := 14) (w' := (((W.setCell ⟨r, 0, none⟩ (.int .u64 (rr * 1000000000 + x))).drew.setCell ⟨g, i, none⟩ (.int .u64 ((rr * 1000000000 + x) / b0))).setCell ⟨r, 0, none⟩ (.int .u64 ((rr * 1000000000 + x) % b0)))) hpl rfl (by kernel_rfl) rfl rfl rfl (by go_simp) (.inl rfl) ?_
    refine T_done (by kernel_rfl) ?_ _
    gi_wp2
    have q0 : 0 ≤ (rr * 1000000000 + x) / b0 := Int.ediv_nonneg (by omega) (by omega)
    have rowA := (ownsRow_setCell_other hrow (a := ⟨r, 0, none⟩) (by simp [Value.ownBlock]; omega) (.int .u64 (rr * 1000000000 + x))).drew
    have rowB := rowA.stored i (.int .u64 ((rr * 1000000000 + x) / b0))
    have rowC := ownsRow_setCell_other rowB.1 (a := ⟨r, 0, none⟩) (by simp [Value.ownBlock]; omega) (.int .u64 ((rr * 1000000000 + x) % b0))
    have keep : ∀ B t u, Boxed W B t u → B ≠ r → B ≠ g → Boxed ((((W.setCell ⟨r, 0, none⟩ (.int .u64 (rr * 1000000000 + x))).drew).setCell ⟨g, i, none⟩ (.int .u64 ((rr * 1000000000 + x) / b0))).setCell ⟨r, 0, none⟩ (.int .u64 ((rr * 1000000000 + x) % b0))) B t u := fun B t u hB h1 h2 =>
      (Boxed.kept (show Boxed (W.setCell ⟨r, 0, none⟩ (.int .u64 (rr * 1000000000 + x))).drew B t u from hB.other h1 _) rowB.2 (by simpa using h2)).other h1 _
    have boxR : Boxed ((((W.setCell ⟨r, 0, none⟩ (.int .u64 (rr * 1000000000 + x))).drew).setCell ⟨g, i, none⟩ (.int .u64 ((rr * 1000000000 + x) / b0))).setCell ⟨r, 0, none⟩ (.int .u64 ((rr * 1000000000 + x) % b0))) r 56 (.int .u64 ((rr * 1000000000 + x) % b0)) :=
      (Boxed.kept (show Boxed (W.setCell ⟨r, 0, none⟩ (.int .u64 (rr * 1000000000 + x))).drew r 56 _ from hR.set _) rowB.2 (by simpa using n1.symm)).set _
    have bS3 := keep _ _ _ hS (by omega) (by omega)
    have bl : ∀ n, n ≤ w.heap.size → ∀ w0, Below n w0 W → Below n w0 ((((W.setCell ⟨r, 0, none⟩ (.int .u64 (rr * 1000000000 + x))).drew).setCell ⟨g, i, none⟩ (.int .u64 ((rr * 1000000000 + x) / b0))).setCell ⟨r, 0, none⟩ (.int .u64 ((rr * 1000000000 + x) % b0))) := fun n hn w0 h =>
      (((h.setCell (p := ⟨r, 0, none⟩) (by show n ≤ r; omega) _).drew).setCell (p := ⟨g, i, none⟩) (by show n ≤ g; omega) _).setCell (p := ⟨r, 0, none⟩) (by show n ≤ r; omega) _
    refine ⟨((((KeepsOthers.setCell _ _ _).trans (KeepsOthers.drew _)).trans (KeepsOthers.setCell _ _ _)).trans (KeepsOthers.setCell _ _ _)).from _, ⟨bl _ (Nat.le_refl _) _ (Below.refl _ _), ?_⟩, ?_⟩
    · rw [bS3.cell, hS.cell]
    · dsimp only
      rw [HS.out]
      refine ⟨⟨⟨_, keep _ _ _ hQ (by omega) (by omega), ?_, rfl⟩, boxR⟩, ⟨keep _ _ _ hB (by omega) (by omega), bS3⟩, bl _ (Nat.le_refl _) _ hbl⟩
      simpa [dstep, List.map_set] using rowC
  case hdone =>
    rintro D ys W hD rfl ⟨⟨⟨v, hQ, hrow, rfl⟩, hR⟩, ⟨hB, hS⟩, hbl⟩ hK
    have cR := hR.cell
    have cQ := hQ.cell
    have fQ := hQ.frozen
    gi_wp2
    have hE := dst_end p0 p1 xs hp
    have hI := dst_inv p0 p1 (downs xs hp xs.length (Nat.le_refl _))
    generalize dst b0 (downs xs hp xs.length (Nat.le_refl _)) = s at *
    obtain ⟨os, rr⟩ := s
    simp only at hrow hR cR hE hI
    obtain ⟨hE1, hE2⟩ := hE
    obtain ⟨hI1, hI2, hI3, hI4⟩ := hI
    have hrd0 := Rd.of_owns hrow hI1 (by omega)
    have HI1 := Lib.hid hI1
    have HE1 := Lib.hid hE1
    have HE2 := Lib.hid hE2
    clear hI1 hE1 hE2
    have lQ := hQ.lt
    have lR := hR.lt
    have hKf := Lib.hid ((((KeepsOthers.setCell W ⟨w.heap.size + 1, 0, none⟩ (.slice (some ⟨g, 0, none⟩) (trimN os) xs.length)).trans (KeepsOthers.alloc _ (.cells #[.int .u64 rr] 56))).trans (KeepsOthers.drew _)).same D _ hK rfl)
    have hrowf := Lib.hid (((ownsRow_setCell_other hrow (a := ⟨w.heap.size + 1, 0, none⟩) (by simp [Value.ownBlock]; omega) (.slice (some ⟨g, 0, none⟩) (trimN os) xs.length)).alloc (.cells #[.int .u64 rr] 56)).drew)
    have hQf := Lib.hid (show Boxed ((W.setCell ⟨w.heap.size + 1, 0, none⟩ (.slice (some ⟨g, 0, none⟩) (trimN os) xs.length)).alloc (.cells #[.int .u64 rr] 56)).drew (w.heap.size + 1) 49 (.slice (some ⟨g, 0, none⟩) (trimN os) xs.length) from (hQ.set _).alloc _)
    have hLf := Lib.hid (show Boxed ((W.setCell ⟨w.heap.size + 1, 0, none⟩ (.slice (some ⟨g, 0, none⟩) (trimN os) xs.length)).alloc (.cells #[.int .u64 rr] 56)).drew W.heap.size 56 (.int .u64 rr) from by
      have := Boxed.new (W.setCell ⟨w.heap.size + 1, 0, none⟩ (.slice (some ⟨g, 0, none⟩) (trimN os) xs.length)) 56 (.int .u64 rr)
      rw [show (W.setCell ⟨w.heap.size + 1, 0, none⟩ (.slice (some ⟨g, 0, none⟩) (trimN os) xs.length)).heap.size = W.heap.size from by simp] at this
      exact this)
    have hBf := Lib.hid ((((hbl.setCell (p := ⟨w.heap.size + 1, 0, none⟩) (by show w.heap.size ≤ w.heap.size + 1; omega) (.slice (some ⟨g, 0, none⟩) (trimN os) xs.length)).alloc (by have := hbl.size; simp; omega) (.cells #[.int .u64 rr] 56)).drew).trans
      (belowK_b (w := w) (Nat.le_refl _) _ D _ (.deferred none) (by omega) hKf.out rfl rfl))
    clear hbl
    refine wpIn_wide.2 (wp_region_noPanic ?_)
    go_region_with (first
      | (go_at_call 63; (with_reducible refine (trim_det (some ⟨g, 0, none⟩) xs.length xs.length os _ (by repeat (first | exact hrd0 | refine Rd.alloc ?_ _ | refine Rd.drew ?_)) HI1.out (Nat.le_refl _)).mono ?_); rintro e w' ⟨rfl, rfl⟩)
      | (go_at_call 63; (with_reducible refine (trim_det _ 1 1 [rr] _ (by first | exact (Rd.lit1 _ _ _ _).drew | exact Rd.lit1 _ _ _ _) rfl (Nat.le_refl _)).mono ?_); rintro e w' ⟨rfl, rfl⟩))
    all_goals (refine NoPanic.normal ?_)
    all_goals gi_wp2
    all_goals
      refine ⟨by simp, .inl ⟨_, _, rfl, run_takeDeferred hKf.out, ?_⟩⟩
      have cZ := cell_kept hQf.out.cell (grownBy_putObj' _ D (.deferred none)) (fun r e => by cases e; exact ⟨_, hKf.out, rfl⟩)
      refine ⟨.tuple #[.slice (some ⟨g, 0, none⟩) (trimN os) xs.length, .slice (some ⟨W.heap.size, 0, none⟩) (trimN [rr]) 1], by simp [results, Tryz.results37, go_sem, cZ], _, _, rfl, ?_, ?_, hBf.out⟩
      · exact MgN.trimmed (Rd.of_owns (ownsRow_putObj hrowf.out _ hKf.out rfl) HI1.out (by omega)) hI2 (by have := HI1.out; omega) HE1.out (fun ad e => by cases e; show w.heap.size ≤ g; omega) (fun e => by cases e)
      · exact Mg.trimmed (Rd.of_boxed (hLf.out.kept (grownBy_putObj' _ D (.deferred none)) (fun e => by
          have h1 := hLf.out
          have h2 := hKf.out
          cases e
          rw [show _ = _ from h1] at h2
          cases h2))) (pcs1 hI3 (by omega)) (by simp) (by rw [pv_one]; exact HE2.out)
  case hstop =>
    rintro D c pre W _ _ h _
    exact h.elim

/-- divide by one piece, whatever is divided. -/
theorem divide_piece (v v' : Value) (x b0 : Int) (w : World) (hx : Mg w v x) (hy : Mg w v' b0) (bx : x < LIM) (p0 : 0 < b0) (p1 : b0 < 1000000000) :
    Calls Tryz.prog 37 #[v, v'] w fun e w' => ∃ q r, e = .returned (.tuple #[q, r]) ∧ MgN w.heap.size w' q (x / b0) ∧ Mg w' r (x % b0) ∧ Below w.heap.size w w' := by
  have hx0 := hx.nonneg
  by_cases hlt : x < b0
  · refine (divide_less v v' x b0 w hx hy hlt).mono ?_
    rintro e w' ⟨q, rfl, hq, hb⟩
    exact ⟨q, v, rfl, by rw [Int.ediv_eq_zero_of_lt hx0 hlt]; exact hq, by rw [Int.emod_eq_of_lt hx0 hlt]; exact hx.below (Nat.le_refl _) hb, hb⟩
  · obtain ⟨a, n, c, xs, rfl, rfl, hc, hr, hp, ht, rfl⟩ := hx
    obtain ⟨a', n', c', ys, rfl, rfl, hc', hr', hp', ht', hv'⟩ := hy
    have hl := ht'.len_le (B := 1000000000) (k := 1) (by omega) hp' (by rw [hv']; simpa using p1)
    have h1 : ys.length = 1 := by
      rcases Nat.eq_zero_or_pos ys.length with h | h
      · rw [List.length_eq_zero_iff.1 h] at hv'; simp [pv] at hv'; omega
      · omega
    obtain ⟨y, rfl⟩ : ∃ y, ys = [y] := by
      match ys, h1 with
      | [y], _ => exact ⟨y, rfl⟩
    obtain rfl : y = b0 := by rw [← hv', pv_one]
    exact divide_one_at a a' c c' xs y w hr hr' (len_of_lim hp ht bx) hp ht p0 p1 hc hc' (by omega)

end Go.Proofs.YtpjknkembghjcaaGreatDoor

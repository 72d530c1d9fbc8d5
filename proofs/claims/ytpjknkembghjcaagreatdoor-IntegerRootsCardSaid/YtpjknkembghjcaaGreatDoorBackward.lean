/- slices.Backward over pieces: the iterator and its function, for every loop body that keeps what lay below. -/
import Derived.RangeFuncNested
import Derived.RangeFuncBound
import Derived.RangeFuncCalls
import Derived.RangeFuncLeaves
import Derived.RangeFuncBox
import Derived.Shelf.Abstract
import Derived.OwnWalkIn
import Derived.TacticsInMore
import Derived.LoopNIn
import Derived.LoopIn
import Derived.Test.YtpjknkembghjcaaGreatDoorBase
namespace Go.Proofs.YtpjknkembghjcaaGreatDoor
open Go.RowKit Mag

attribute [local go_sem] Oper.semAt_some

/-- A store into a box ahead of B. -/
theorem MgN.store {B b : Nat} {w : World} {v : Value} {x : Int} (h : MgN B w v x) (hb : b < B) (u : Value) : MgN B (w.setCell ⟨b, 0, none⟩ u) v x :=
  h.kept (by simp) fun b' h1 h2 => (grownBy_setCell' w b u).block b' h2 (fun e => by cases e; omega)
theorem boxed_under {W W' : World} {B n : Nat} {t : TypeId} {v : Value} (h : Boxed W B t v) (hb : Below n W W') (hn : B < n) : Boxed W' B t v := (hb.block B hn).trans h
/-- A box of a whole number reads as a slice of one. -/
theorem Rd.of_boxed {w : World} {B : Nat} {e : TypeId} {k : IntKind} {d : Int} (h : Boxed w B e (.int k d)) : Rd w k (some ⟨B, 0, none⟩) [d] := by
  refine ⟨by simp, fun _ => ⟨_, _, rfl, h.lt, fun j hj => ?_⟩⟩
  have hj0 : j = 0 := by simpa using hj
  subst hj0
  exact h.cell

/-- What a round keeps: what lay below n₀, and the iterator's box. -/
def KpR (n₀ Bs : Nat) (W W' : World) : Prop := Below n₀ W W' ∧ W'.cell? ⟨Bs, 0, none⟩ = W.cell? ⟨Bs, 0, none⟩
theorem KpR.refl (n₀ Bs : Nat) (W : World) : KpR n₀ Bs W W := ⟨Below.refl _ _, rfl⟩
theorem KpR.trans {n₀ Bs : Nat} {A B C : World} (h : KpR n₀ Bs A B) (k : KpR n₀ Bs B C) : KpR n₀ Bs A C := ⟨h.1.trans k.1, k.2.trans h.2⟩
theorem KpR.put {n₀ Bs : Nat} {w : World} (hn : n₀ ≤ w.heap.size) (hb : Bs < w.heap.size) (W : World) (l : Nat) (o o' : Obj) (hl : w.heap.size ≤ l) (h : W.heap[l]? = some o) (h1 : o.isCells = false) (h2 : o.isWalk = false) : KpR n₀ Bs W (W.putObj l o') :=
  ⟨belowK_b hn W l o o' hl h h1 h2, by
    have e : (W.putObj l o').heap[Bs]? = W.heap[Bs]? := World.putObj_heap_other (by omega)
    unfold World.cell?
    rw [e]⟩

/-- What a round is handed: an index below n, and a piece. -/
abbrev Pc (n : Nat) := { p : Nat × Int // p.1 < n ∧ 0 ≤ p.2 ∧ p.2 < 1000000000 }

/-- What has come when k rounds are over: the last k pieces, the last one first. -/
def downs (xs : List Int) (hp : Pcs 1000000000 xs) : (k : Nat) → k ≤ xs.length → List (Pc xs.length)
  | 0, _ => []
  | k + 1, h => downs xs hp k (by omega) ++ [⟨(xs.length - 1 - k, xs.getD (xs.length - 1 - k) 0), by show xs.length - 1 - k < xs.length; omega, hp.at (by omega) _⟩]
theorem downs_length (xs : List Int) (hp : Pcs 1000000000 xs) (k : Nat) (h : k ≤ xs.length) : (downs xs hp k h).length = k := by
  induction k with
  | zero => rfl
  | succ k ih => simp [downs, ih (by omega)]

theorem downs_succ (xs : List Int) (hp : Pcs 1000000000 xs) (k : Nat) (h : k + 1 ≤ xs.length) (q : Nat) (x : Int) (hq : xs.length - 1 - k = q) (hx : xs.getD q 0 = x) (pf : q < xs.length ∧ 0 ≤ x ∧ x < 1000000000) :
    downs xs hp k (by omega) ++ [⟨(q, x), pf⟩] = downs xs hp (k + 1) h := by
  subst hq hx
  rfl

set_option maxRecDepth 100000 in
set_option maxHeartbeats 2000000 in
theorem backward1_in (F : Fence) (n : Nat) (hf : F.fn 86) (hro : F.round = none) (hn : 1 ≤ n) (l Bs n₀ b off cap : Nat) (xs : List Int) (hp : Pcs 1000000000 xs) (hlen : xs.length ≤ 1000000000000) (hb : b < n₀) (J Jx : List (Pc xs.length) → World → Prop)
    (hY : ∀ pre x W, J pre W → pre.length < xs.length → YieldAt F (n - 1) Tryz.prog l #[.int .i64 (x.1.1 : Int), .int .u64 x.1.2] W fun e W' =>
      (e = .returned (.bool true) ∧ J (pre ++ [x]) W' ∧ KpR n₀ Bs W W') ∨ (e = .returned (.bool false) ∧ Jx (pre ++ [x]) W'))
    (W : World) (hBs : W.cell? ⟨Bs, 0, none⟩ = some (.slice (some ⟨b, off, none⟩) xs.length cap)) (hc : ∀ j, j < xs.length → W.cell? ⟨b, off + j, none⟩ = some (.int .u64 (xs.getD j 0))) (h0 : J [] W) :
    CallsIn F n Tryz.prog 86 #[.func (.yield l) #[] #[], .pointer (some ⟨Bs, 0, none⟩)] W fun e W' => (∃ v, e = .returned v) ∧
      ((∃ ys, ys = downs xs hp xs.length (Nat.le_refl _) ∧ J ys W') ∨ (∃ pre, (∃ k, ∃ hk : k ≤ xs.length, pre = downs xs hp k hk) ∧ Jx pre W')) := by
  refine callsIn_of_wp Tryz.func86 rfl hf ?_ hro
  simp only [Tryz.ntmps86, List.size_toArray, List.length_cons, List.length_nil, Nat.reduceAdd, Nat.reduceSub, Array.replicate_succ, Array.replicate_zero, List.push_toArray, List.append_toArray, List.nil_append, List.cons_append]
  gi_wp2
  gi_loopw [3] (fun i wr => ∃ (k : Nat) (hk : k ≤ xs.length) (m : Int), i = .int .i64 m ∧ Hid (m = (xs.length : Int) - 1 - k) ∧ J (downs xs hp k hk) wr ∧ KpR n₀ Bs W wr)
    (fun i _ => (intOf i + 1).toNat)
  case atStart => exact ⟨0, Nat.zero_le _, _, rfl, Lib.hid (by omega), h0, KpR.refl _ _ _⟩
  case round =>
    obtain ⟨k, hk, m, rfl, hm, hJs, hnx⟩ := hrel
    have hbs := hnx.2.trans hBs
    by_cases hlt : k < xs.length
    · obtain ⟨q, hq⟩ : ∃ q, xs.length - 1 - k = q := ⟨_, rfl⟩
      obtain rfl : m = (q : Int) := by have := hm.out; omega
      have HQ := Lib.hid hq
      have hq1 : q < xs.length := by omega
      clear hq hm
      have hcx := (hnx.1.cell (p := ⟨b, off + q, none⟩) hb).trans (hc q hq1)
      obtain ⟨x, x0, x1, hx⟩ : ∃ x, 0 ≤ x ∧ x < 1000000000 ∧ xs.getD q 0 = x := ⟨_, (hp.at (by omega) q).1, (hp.at (by omega) q).2, rfl⟩
      rw [hx] at hcx
      have HX := Lib.hid hx
      clear hx
      obtain ⟨fn, tmps, assign, body, hy, hR⟩ := hY _ ⟨(q, x), hq1, x0, x1⟩ wr hJs (by rw [downs_length]; exact hlt)
      dsimp only at hy
      gi_wp2
      refine hR.mono ?_
      rintro e W3 (⟨rfl, hJ3, hk3⟩ | ⟨rfl, hJx3⟩)
      · gi_wp2
        go_roundw
        case rel => exact ⟨k + 1, by omega, _, rfl, Lib.hid (by have := HQ.out; omega), by rw [← downs_succ xs hp k (by omega) q x HQ.out HX.out ⟨hq1, x0, x1⟩]; exact hJ3, hnx.trans hk3⟩
        case measure => simp [intOf]
      · gi_wp2
        refine bodyPost_ret (results_none rfl _ _ _) rfl ?_
        exact ⟨⟨_, rfl⟩, .inr ⟨_, ⟨k + 1, by omega, downs_succ xs hp k (by omega) q x HQ.out HX.out ⟨hq1, x0, x1⟩⟩, hJx3⟩⟩
    · obtain rfl : k = xs.length := by omega
      obtain rfl : m = -1 := by have := hm.out; omega
      gi_wp2
      go_end0
      exact ⟨⟨_, rfl⟩, .inl ⟨_, rfl, hJs⟩⟩

set_option maxRecDepth 100000 in
set_option maxHeartbeats 1000000 in
/-- .. at a slice of no piece: no round. -/
theorem backward1_nil_in (F : Fence) (n : Nat) (hf : F.fn 86) (hro : F.round = none) (l Bs cap : Nat) (A : Option Addr) {α : Type} (J : List α → World → Prop) (W : World) (hBs : W.cell? ⟨Bs, 0, none⟩ = some (.slice A 0 cap)) (h0 : J [] W) :
    CallsIn F n Tryz.prog 86 #[.func (.yield l) #[] #[], .pointer (some ⟨Bs, 0, none⟩)] W fun e W' => (∃ v, e = .returned v) ∧ J [] W' := by
  refine callsIn_of_wp Tryz.func86 rfl hf ?_ hro
  simp only [Tryz.ntmps86, List.size_toArray, List.length_cons, List.length_nil, Nat.reduceAdd, Nat.reduceSub, Array.replicate_succ, Array.replicate_zero, List.push_toArray, List.append_toArray, List.nil_append, List.cons_append]
  gi_wp2
  gi_loopw [3] (fun i wr => i = .int .i64 (-1) ∧ J [] wr) (fun _ _ => 0)
  case atStart => exact ⟨rfl, h0⟩
  case round =>
    obtain ⟨rfl, hJs⟩ := hrel
    gi_wp2
    go_end0
    exact ⟨⟨_, rfl⟩, hJs⟩

set_option maxHeartbeats 1000000 in
/-- slices.Backward: the slice value is boxed; the function value captures the box. -/
theorem backward_in (F : Fence) (n : Nat) (hf : F.fn 64) (hro : F.round = none) (a : Option Addr) (len cap : Nat) (w : World) :
    CallsIn F n Tryz.prog 64 #[.slice a len cap] w fun e w' => e = .returned (.func (.func 86) #[] #[.pointer (some ⟨w.heap.size, 0, none⟩)]) ∧ w' = w.alloc (.cells #[.slice a len cap] 49) := by
  refine callsIn_of_wp Tryz.func64 rfl hf ?_ hro
  simp only [Tryz.ntmps64, List.size_toArray, List.length_cons, List.length_nil, Nat.reduceAdd, Nat.reduceSub, Array.replicate_succ, Array.replicate_zero, List.push_toArray, List.append_toArray, List.nil_append, List.cons_append]
  gi_wp2
  go_ret
  exact ⟨rfl, rfl⟩

theorem backward_stops (F : Fence) (n : Nat) (hf : F.fn 86) (hro : F.round = none) (hn : 1 ≤ n) (Bs n₀ : Nat) (A : Option Addr) (len cap : Nat) (xs : List Int) (hp : Pcs 1000000000 xs) (w : World) (hl : xs.length = len) (hBs : Bs < w.heap.size)
    (hc : w.cell? ⟨Bs, 0, none⟩ = some (.slice A len cap)) (hI : Rd w .u64 A xs) (hAb : ∀ b o, A = some ⟨b, o, none⟩ → 0 < xs.length → b < n₀) :
    SeqStopsK F n Tryz.prog 86 #[.pointer (some ⟨Bs, 0, none⟩)] (fun x : Pc xs.length => #[Value.int .i64 (x.1.1 : Int), Value.int .u64 x.1.2]) (KpR n₀ Bs) (fun ys => ys = downs xs hp xs.length (Nat.le_refl _))
      (fun pre => ∃ k, ∃ hk : k ≤ xs.length, pre = downs xs hp k hk) xs.length w := fun l J Jx W hW _ _ hY h0 => by
  subst hl
  have hc' := (hW.cell (p := ⟨Bs, 0, none⟩) hBs).trans hc
  by_cases h0' : 0 < xs.length
  · obtain ⟨b, off, rfl, hb, hcs⟩ := hI.2 h0'
    exact backward1_in F n hf hro hn l Bs n₀ b off cap xs hp hI.1 (hAb b off rfl h0') J Jx hY W hc' (fun j hj => (hW.cell (p := ⟨b, off + j, none⟩) hb).trans (hcs j hj)) h0
  · obtain rfl : xs = [] := List.length_eq_zero_iff.1 (by omega)
    exact (backward1_nil_in F n hf hro l Bs cap A J W hc' h0).mono fun e W' ⟨he, hj⟩ => ⟨he, .inl ⟨_, rfl, hj⟩⟩

end Go.Proofs.YtpjknkembghjcaaGreatDoor

/- How a slice of whole numbers reads in a world; small words for the walks. -/
import Derived.Test.YtpjknkembghjcaaGreatDoorProg
import Derived.Test.YtpjknkembghjcaaGreatDoorMag
import Derived.WalkKit
import Derived.KernelRfl
import Derived.Deep.QuietTactic
import Derived.BigQuiet
import Derived.OwnWalk
import Derived.Outline
import Derived.Lib.Hide
import Derived.Laws.OwnMore
set_option linter.unusedVariables false
namespace Go.Proofs.YtpjknkembghjcaaGreatDoor
open Go.RowKit

/-- The slice with the address A reads as xs. -/
def Rd (w : World) (k : IntKind) (A : Option Addr) (xs : List Int) : Prop :=
  xs.length ≤ 1000000000000 ∧ (0 < xs.length → ∃ b off, A = some ⟨b, off, none⟩ ∧ b < w.heap.size ∧ ∀ j, j < xs.length → w.cell? ⟨b, off + j, none⟩ = some (.int k (xs.getD j 0)))

theorem Rd.nil (w : World) (k : IntKind) (A : Option Addr) : Rd w k A [] := ⟨by simp, fun h => absurd h (by simp)⟩
theorem Rd.take {w : World} {k : IntKind} {A : Option Addr} {xs : List Int} (h : Rd w k A xs) (m : Nat) : Rd w k A (xs.take m) := by
  refine ⟨Nat.le_trans (List.length_take_le' _ _) h.1, fun hm => ?_⟩
  have hl : (xs.take m).length ≤ xs.length := List.length_take_le' _ _
  obtain ⟨b, off, e, hb, hc⟩ := h.2 (by omega)
  refine ⟨b, off, e, hb, fun j hj => ?_⟩
  have hj' : j < m := by simp at hj; omega
  rw [hc j (by omega), List.getD_eq_getElem?_getD, List.getD_eq_getElem?_getD, List.getElem?_take_of_lt hj']
theorem Rd.below {w w1 : World} {k : IntKind} {A : Option Addr} {xs : List Int} (h : Rd w k A xs) {n : Nat} (hn : w.heap.size ≤ n) (hb : Below n w w1) : Rd w1 k A xs := by
  refine ⟨h.1, fun hm => ?_⟩
  obtain ⟨b, off, e, hb', hc⟩ := h.2 hm
  exact ⟨b, off, e, Nat.lt_of_lt_of_le hb' hb.size, fun j hj => (hb.cell (p := ⟨b, off + j, none⟩) (Nat.lt_of_lt_of_le hb' hn)).trans (hc j hj)⟩

theorem Rd.under {w w1 : World} {k : IntKind} {A : Option Addr} {xs : List Int} (h : Rd w k A xs) {n : Nat} (hA : ∀ b o, A = some ⟨b, o, none⟩ → 0 < xs.length → b < n) (hb : Below n w w1) : Rd w1 k A xs := by
  refine ⟨h.1, fun hm => ?_⟩
  obtain ⟨b, off, e, hb', hc⟩ := h.2 hm
  exact ⟨b, off, e, Nat.lt_of_lt_of_le hb' hb.size, fun j hj => (hb.cell (p := ⟨b, off + j, none⟩) (hA b off e hm)).trans (hc j hj)⟩
theorem below_drewN {B : Nat} {w W : World} (h : Below B w W) (n : Nat) : Below B w (W.drewN n) := ⟨h.os, h.tape, h.output, h.size, h.block⟩

/-- A bound on numbers, never written out. -/
def LIM : Int := (1000000000 : Int) ^ 1000000

theorem lim_of_pow {x : Int} {k : Nat} (hk : k ≤ 1000000) (h : x < (1000000000 : Int) ^ k) : x < LIM :=
  Int.lt_of_lt_of_le h (Mag.pow_mono (by omega) hk)
theorem lim_of_small {x : Int} (h : x ≤ 1000000000) : x < LIM := by
  refine lim_of_pow (k := 2) (by omega) ?_
  rw [show (1000000000 : Int) ^ 2 = 1000000000 * 1000000000 from by rw [Int.pow_succ, Int.pow_succ, Int.pow_zero, Int.one_mul]]
  omega

/-- The slice value v is the magnitude x, in pieces. -/
def Mg (w : World) (v : Value) (x : Int) : Prop :=
  ∃ a n c xs, v = .slice a n c ∧ xs.length = n ∧ n ≤ c ∧ Rd w .u64 a xs ∧ Mag.Pcs 1000000000 xs ∧ Mag.Trm xs ∧ Mag.pv 1000000000 xs = x

theorem Mg.below {w w1 : World} {v : Value} {x : Int} (h : Mg w v x) {n : Nat} (hn : w.heap.size ≤ n) (hb : Below n w w1) : Mg w1 v x := by
  obtain ⟨a, m, c, xs, e, hl, hc, hr, hp, ht, hv⟩ := h
  exact ⟨a, m, c, xs, e, hl, hc, hr.below hn hb, hp, ht, hv⟩
theorem Mg.nonneg {w : World} {v : Value} {x : Int} (h : Mg w v x) : 0 ≤ x := by
  obtain ⟨a, m, c, xs, e, hl, hc, hr, hp, ht, hv⟩ := h
  rw [← hv]; exact Mag.pv_nonneg (by omega) hp
theorem len_of_lim {xs : List Int} (hp : Mag.Pcs 1000000000 xs) (ht : Mag.Trm xs) (h : Mag.pv 1000000000 xs < LIM) : xs.length ≤ 1000000 :=
  ht.len_le (by omega) hp h
theorem Rd.drewN {w : World} {k : IntKind} {A : Option Addr} {xs : List Int} (h : Rd w k A xs) (n : Nat) : Rd (w.drewN n) k A xs :=
  ⟨h.1, fun hm => by
    obtain ⟨b, off, e, hb', hc⟩ := h.2 hm
    exact ⟨b, off, e, hb', hc⟩⟩
theorem Rd.drew {w : World} {k : IntKind} {A : Option Addr} {xs : List Int} (h : Rd w k A xs) : Rd w.drew k A xs := h.drewN 1
theorem Rd.alloc {w : World} {k : IntKind} {A : Option Addr} {xs : List Int} (h : Rd w k A xs) (o : Obj) : Rd (w.alloc o) k A xs := h.below (Nat.le_refl _) ((Below.refl _ _).alloc (Nat.le_refl _) o)
theorem Mg.drewN {w : World} {v : Value} {x : Int} (h : Mg w v x) (k : Nat) : Mg (w.drewN k) v x := by
  obtain ⟨a, m, c, xs, e, hl, hc, hr, hp, ht, hv⟩ := h
  exact ⟨a, m, c, xs, e, hl, hc, hr.drewN k, hp, ht, hv⟩
theorem Mg.drew {w : World} {v : Value} {x : Int} (h : Mg w v x) : Mg w.drew v x := h.drewN 1
/-- What is trimmed is a magnitude. -/
theorem Mg.of_trim {w : World} {a : Option Addr} {m cap : Nat} {os : List Int} {x : Int} (hr : Rd w .u64 a os) (hp : Mag.Pcs 1000000000 os) (hm : m ≤ os.length) (hc : os.length ≤ cap) (ht : Mag.Trm (os.take m))
    (hv : Mag.pv 1000000000 (os.take m) = Mag.pv 1000000000 os) (hx : Mag.pv 1000000000 os = x) : Mg w (.slice a m cap) x :=
  ⟨a, m, cap, os.take m, rfl, by rw [List.length_take, Nat.min_eq_left hm], by omega, hr.take m, hp.take m, ht, by rw [hv, hx]⟩

/-- .. in a block from B on. -/
def MgN (B : Nat) (w : World) (v : Value) (x : Int) : Prop :=
  ∃ a n c xs, v = .slice a n c ∧ xs.length = n ∧ n ≤ c ∧ Rd w .u64 a xs ∧ Mag.Pcs 1000000000 xs ∧ Mag.Trm xs ∧ Mag.pv 1000000000 xs = x ∧ (∀ ad, a = some ad → B ≤ ad.block) ∧ (a = none → c = 0)
theorem MgN.mg {B : Nat} {w : World} {v : Value} {x : Int} (h : MgN B w v x) : Mg w v x := by
  obtain ⟨a, n, c, xs, h1, h2, h3, h4, h5, h6, h7, _⟩ := h
  exact ⟨a, n, c, xs, h1, h2, h3, h4, h5, h6, h7⟩
theorem MgN.mono {B B' : Nat} {w : World} {v : Value} {x : Int} (h : MgN B w v x) (hb : B' ≤ B) : MgN B' w v x := by
  obtain ⟨a, n, c, xs, h1, h2, h3, h4, h5, h6, h7, h8, h9⟩ := h
  exact ⟨a, n, c, xs, h1, h2, h3, h4, h5, h6, h7, fun ad e => Nat.le_trans hb (h8 ad e), h9⟩
theorem MgN.below {B : Nat} {w w1 : World} {v : Value} {x : Int} (h : MgN B w v x) {n : Nat} (hn : w.heap.size ≤ n) (hb : Below n w w1) : MgN B w1 v x := by
  obtain ⟨a, m, c, xs, h1, h2, h3, h4, h5, h6, h7, h8, h9⟩ := h
  exact ⟨a, m, c, xs, h1, h2, h3, h4.below hn hb, h5, h6, h7, h8, h9⟩
theorem MgN.drewN {B : Nat} {w : World} {v : Value} {x : Int} (h : MgN B w v x) (k : Nat) : MgN B (w.drewN k) v x := by
  obtain ⟨a, m, c, xs, h1, h2, h3, h4, h5, h6, h7, h8, h9⟩ := h
  exact ⟨a, m, c, xs, h1, h2, h3, h4.drewN k, h5, h6, h7, h8, h9⟩
theorem MgN.nil (B : Nat) (w : World) : MgN B w (.slice none 0 0) 0 :=
  ⟨none, 0, 0, [], rfl, rfl, Nat.le_refl _, Rd.nil _ _ _, Mag.Pcs.nil, Mag.Trm.nil, rfl, (fun _ h => by cases h), fun _ => rfl⟩
/-- A world in which the blocks from B on lie as they lay. -/
theorem MgN.kept {B : Nat} {w w1 : World} {v : Value} {x : Int} (h : MgN B w v x) (hs : w.heap.size ≤ w1.heap.size) (hk : ∀ b, B ≤ b → b < w.heap.size → w1.heap[b]? = w.heap[b]?) : MgN B w1 v x := by
  obtain ⟨a, m, c, xs, h1, h2, h3, h4, h5, h6, h7, h8, h9⟩ := h
  refine ⟨a, m, c, xs, h1, h2, h3, ⟨h4.1, fun h0 => ?_⟩, h5, h6, h7, h8, h9⟩
  obtain ⟨b, off, e, hb, hc⟩ := h4.2 h0
  refine ⟨b, off, e, Nat.lt_of_lt_of_le hb hs, fun j hj => ?_⟩
  rw [World.cell?_of_block (w := w) (w' := w1) (hk b (h8 _ e) hb)]
  exact hc j hj
theorem MgN.of_trim {B : Nat} {w : World} {ad : Addr} {m cap : Nat} {os : List Int} {x : Int} (hr : Rd w .u64 (some ad) os) (hp : Mag.Pcs 1000000000 os) (hm : m ≤ os.length) (hc : os.length ≤ cap) (ht : Mag.Trm (os.take m))
    (hv : Mag.pv 1000000000 (os.take m) = Mag.pv 1000000000 os) (hx : Mag.pv 1000000000 os = x) (hB : B ≤ ad.block) : MgN B w (.slice (some ad) m cap) x :=
  ⟨some ad, m, cap, os.take m, rfl, by rw [List.length_take, Nat.min_eq_left hm], by omega, hr.take m, hp.take m, ht, by rw [hv, hx], fun ad' e => by cases e; exact hB, fun e => by cases e⟩

end Go.Proofs.YtpjknkembghjcaaGreatDoor

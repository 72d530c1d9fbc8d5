/- A region that draws its order, in a round of a loop: what reads under a condition S may be taken first; S need not hold behind the last operation. -/
import Derived.OrdersIn
import Derived.OrdersHeld
import Derived.OwnWalkIn
import Derived.WalkKit
namespace Go.Proofs.YtpjknkembghjcaaGreatDoor
open Go

section
variable {F : Fence} {n : Nat} {P : Program} {ops : Array Oper} {Q : Exit → Act → World → Prop} {md : Region.Mode} {S : World → Prop} {last : Nat}

/-- The operation is carried out, and in every world that meets S it leaves v, changes nothing, and calls nobody. -/
def YieldsS (P : Program) (ops : Array Oper) (S : World → Prop) (o : Oper) (v : Value) (a : Act) : Prop :=
  Region.wanted o (yielded ops a.tmps) = true ∧ ∀ w, S w → (execOp a.eval o).run P w = .ok (.value v) w ∧ o.about P w a.eval = none

/-- No operation is a defer statement or a select. -/
def PlainOps (ops : Array Oper) : Prop := ∀ (j : Nat) (o : Oper), ops[j]? = some o → (∀ c, o.op ≠ .defer c) ∧ (∀ cs b, o.op ≠ .select cs b)

/-- Nobody is left when the last one comes up. -/
def LastB (md : Region.Mode) (ops : Array Oper) (last : Nat) : Prop := ∀ i, i ≠ last → i < ops.size → ∃ o, ops[last]? = some o ∧ ∃ e ∈ o.after, Region.binds md e = true ∧ e.on = i

theorem YieldsS.op {i : Nat} {o : Oper} {v : Value} {a : Act} (hpl : PlainOps ops) (hi : ops[i]? = some o) (hy : YieldsS P ops S o v a) {K : Act → World → Prop} {w : World} (hS : S w)
    (h : K (a.put o.dst v) w) : wpOpIn F n P ops Q i K a w := by
  unfold wpOpIn
  simp only [hi, hy.1, if_true, Oper.wpIn]
  obtain ⟨h1, h2⟩ := hy.2 w hS
  refine ⟨fun f hf => (by rw [h2] at hf; cases hf), ?_⟩
  rw [Oper.semAt_plain F _ _ (hpl i o hi).1, h1]
  exact h

theorem op_put {j : Nat} {oi oj : Oper} {v : Value} (hpl : PlainOps ops) (hj : ops[j]? = some oj) (hap : oi.apart ops oj = true) (hsi : ∀ cs b, oi.op ≠ .select cs b)
    (hQ : ∀ c a w, Q (.panic c) (a.put oi.dst v) w → Q (.panic c) a w) {K : Act → World → Prop} {a : Act} {w : World}
    (hy : YieldsS P ops S oi v a) (h : wpOpIn F n P ops Q j K (a.put oi.dst v) w) :
    wpOpIn F n P ops Q j (fun a' w' => YieldsS P ops S oi v a' ∧ K (a'.put oi.dst v) w') a w := by
  obtain ⟨h1, h2, h3⟩ := Oper.apart_spec hap
  have hplj := hpl j oj hj
  have keep0 : ∀ (a : Act), YieldsS P ops S oi v a → ∀ u, YieldsS P ops S oi v (a.put oj.dst u) := fun a hy u => by
    refine ⟨by rw [wanted_put oi a oj.dst u h3]; exact hy.1, fun w' hS => ?_⟩
    rw [execOp_put oi hsi a oj.dst u h3, about_put oi w' a oj.dst u h3]
    exact hy.2 w' hS
  have keep := keep0 a hy
  unfold wpOpIn at *
  simp only [hj] at *
  rw [wanted_put oj a oi.dst v h1, about_put oj w a oi.dst v h1] at h
  split
  · rename_i hw
    simp only [hw, if_true] at h
    unfold Oper.wpIn at *
    rw [about_put oj w a oi.dst v h1] at h
    refine ⟨h.1, ?_⟩
    have h := h.2
    rw [Oper.semAt_plain F _ _ hplj.1, execOp_put oj hplj.2 a oi.dst v h1] at h
    rw [Oper.semAt_plain F _ _ hplj.1]
    generalize (execOp a.eval oj).run P w = r at *
    cases r with
    | ok x w' =>
      cases x <;> simp only [Oper.uponIn] at h ⊢
      case value u => exact ⟨keep u, by rw [← Act.put_comm a v u h2]; exact h⟩
      case skip => exact ⟨keep _, by rw [← Act.put_comm a v undef h2]; exact h⟩
      case defer d =>
        refine ⟨keep0 _ (show YieldsS P ops S oi v { a with defers := d :: a.defers } from ⟨hy.1, hy.2⟩) _, ?_⟩
        rw [← Act.put_comm _ v undef h2, ← Act.put_defers]
        exact h
      case enter f args =>
        refine ⟨h.1, CallsIn.mono h.2 fun e w'' he => ?_⟩
        cases e with
        | returned u => exact ⟨keep u, by rw [← Act.put_comm a v u h2]; exact he⟩
        | panicked c => exact hQ _ _ _ he
        | outgrown => exact he
      case row row args => exact ⟨h.1, RowsIn.mono h.2 fun u w'' he => ⟨keep u, by rw [← Act.put_comm a v u h2]; exact he⟩⟩
      case round l f tmps assign body =>
        refine ⟨h.1, RoundIn.mono h.2 fun e w'' he => ?_⟩
        cases e with
        | returned u => exact ⟨keep u, by rw [← Act.put_comm a v u h2]; exact he⟩
        | panicked c => exact hQ _ _ _ he
        | outgrown => exact he
    | halt x w' =>
      cases x <;> simp only [Oper.uponIn] at h ⊢
      case panic u => exact hQ _ _ _ h
  · rename_i hw
    simp only [hw] at h
    exact ⟨h.1, keep _, by rw [← Act.put_comm a v undef h2]; exact h.2⟩

/-- Whatever order is picked from here on; S holds behind every operation but the last. -/
def AnyT (F : Fence) (n : Nat) (P : Program) (md : Region.Mode) (ops : Array Oper) (Q : Exit → Act → World → Prop) (S : World → Prop) (last : Nat) : Nat → Array Bool → Act → World → Prop
  | 0, listed, a, w => Region.ready md ops listed = [] ∧ Q .normal a w
  | fuel + 1, listed, a, w =>
    (Region.ready md ops listed = [] → Q .normal a w) ∧
    ∀ i ∈ Region.ready md ops listed, wpOpIn F n P ops Q i (fun a' w' => (i = last ∨ S w') ∧ AnyT F n P md ops Q S last fuel (listed.setIfInBounds i true) a' w') a w

theorem any_of_T : ∀ (fuel : Nat) (listed : Array Bool) (a : Act) (w : World), AnyT F n P md ops Q S last fuel listed a w → wpAnyIn F n P md ops Q fuel listed a w
  | 0, _, _, _, h => h
  | fuel + 1, _, _, _, h => ⟨h.1, fun i hi => wpOpIn_mono (fun a' w' h' => any_of_T fuel _ a' w' h'.2) (h.2 i hi)⟩

theorem T_first {i : Nat} {oi : Oper} {v : Value} (hpl : PlainOps ops) (hlast : LastB md ops last) (hil : i ≠ last) (hi : ops[i]? = some oi)
    (hQ : ∀ c a w, Q (.panic c) (a.put oi.dst v) w → Q (.panic c) a w) :
    ∀ (fuel : Nat) (listed : Array Bool) (a : Act) (w : World),
      (∀ j oj, ops[j]? = some oj → j ≠ i → listed.getD j true = false → (∀ e ∈ oj.after, Region.binds md e = true → e.on ≠ i) → oi.apart ops oj = true) →
      i ∈ Region.ready md ops listed → YieldsS P ops S oi v a → S w →
      AnyT F n P md ops Q S last fuel (listed.setIfInBounds i true) (a.put oi.dst v) w → AnyT F n P md ops Q S last (fuel + 1) listed a w := by
  intro fuel
  induction fuel with
  | zero =>
    intro listed a w _ hr hy hS H
    refine ⟨fun h => (by rw [h] at hr; cases hr), fun j hj => ?_⟩
    by_cases hji : j = i
    · subst hji; exact hy.op hpl hi hS ⟨.inr hS, H⟩
    · have := ready_mono hj hji
      rw [H.1] at this
      cases this
  | succ fuel ih =>
    intro listed a w hfree hr hy hS H
    refine ⟨fun h => (by rw [h] at hr; cases hr), fun j hj => ?_⟩
    by_cases hji : j = i
    · subst hji; exact hy.op hpl hi hS ⟨.inr hS, H⟩
    · have h1 := H.2 j (ready_mono hj hji)
      obtain ⟨hjun, oj, hoj, hall⟩ := mem_ready.1 hj
      have hnot : ∀ e ∈ oj.after, Region.binds md e = true → e.on ≠ i := fun e he hb heq => by
        have h1 := hall e he hb
        have h0 := (mem_ready.1 hr).1
        rw [heq] at h1
        rcases Nat.lt_or_ge i listed.size with h' | h'
        · simp [h'] at h0 h1; rw [h0] at h1; cases h1
        · simp [Array.getElem?_eq_none h'] at h1
      have hjl : j ≠ last := fun e => by
        obtain ⟨o, ho, e', he', hb, hon⟩ := hlast i hil (Array.getElem?_eq_some_iff.1 hi).1
        rw [← e, hoj] at ho
        cases ho
        exact hnot e' he' hb hon
      have h2 := op_put hpl hoj (hfree j oj hoj hji hjun hnot) (hpl i oi hi).2 hQ hy h1
      have hfree' : ∀ k ok, ops[k]? = some ok → k ≠ i → (listed.setIfInBounds j true).getD k true = false →
          (∀ e ∈ ok.after, Region.binds md e = true → e.on ≠ i) → oi.apart ops ok = true := fun k ok hk hki hun hno => by
        refine hfree k ok hk hki ?_ hno
        by_cases hjk : j = k
        · subst hjk; exact hjun
        · rw [getD_set_ne true hjk] at hun; exact hun
      refine wpOpIn_mono (fun a' w' h3 => ?_) h2
      have hS' : S w' := h3.2.1.resolve_left hjl
      refine ⟨h3.2.1, ih (listed.setIfInBounds j true) a' w' hfree' (ready_mono hr (Ne.symm hji)) h3.1 hS' ?_⟩
      rw [Array.setIfInBounds_comm _ _ hji]
      exact h3.2.2

/-- Take number i first. -/
theorem T_take {i : Nat} {oi : Oper} {v : Value} {fuel : Nat} {listed : Array Bool} {a : Act} {w : World} (hpl : PlainOps ops) (hlast : LastB md ops last) (hS : S w) (hi : ops[i]? = some oi) (hil : i ≠ last)
    (hf : Region.free md ops listed i = true) (hr : (Region.ready md ops listed).contains i = true)
    (hQ : ∀ c a w, Q (.panic c) (a.put oi.dst v) w → Q (.panic c) a w) (hy : YieldsS P ops S oi v a) {d : Nat} (hd : oi.dst = some d)
    (h : AnyT F n P md ops Q S last fuel (listed.setIfInBounds i true) { a with tmps := a.tmps.setIfInBounds d v } w) : AnyT F n P md ops Q S last (fuel + 1) listed a w :=
  T_first hpl hlast hil hi hQ fuel listed a w (Region.free_spec hi hf) (by simpa using hr) hy hS (by rw [hd]; exact h)

/-- A store that alone may come up. -/
theorem T_store {i : Nat} {oi : Oper} {fuel : Nat} {listed : Array Bool} {a : Act} {w : World} (hpl : PlainOps ops) (hi : ops[i]? = some oi) (hr : Region.ready md ops listed = [i]) (hg : Region.wanted oi (yielded ops a.tmps) = true)
    (hab : oi.about P w a.eval = none) (hd : oi.dst = none) {w' : World} (hrun : (execOp a.eval oi).run P w = .ok .skip w') (hS : i = last ∨ S w')
    (h : AnyT F n P md ops Q S last fuel (listed.setIfInBounds i true) a w') : AnyT F n P md ops Q S last (fuel + 1) listed a w := by
  refine ⟨fun h0 => (by rw [hr] at h0; cases h0), fun j hj => ?_⟩
  rw [hr] at hj
  obtain rfl : j = i := by simpa using hj
  unfold wpOpIn
  simp only [hi, hg, if_true, Oper.wpIn]
  refine ⟨fun f hf => (by rw [hab] at hf; cases hf), ?_⟩
  rw [Oper.semAt_plain F _ _ (hpl j oi hi).1, hrun]
  simp only [Oper.uponIn, hd]
  exact ⟨hS, h⟩
theorem T_done {listed : Array Bool} {a : Act} {w : World} (hr : Region.ready md ops listed = []) (h : Q .normal a w) : ∀ fuel, AnyT F n P md ops Q S last fuel listed a w
  | 0 => ⟨hr, h⟩
  | _ + 1 => ⟨fun _ => h, by rw [hr]; simp⟩
theorem region_T {id : Nat} {a : Act} {w : World} (hm : P.follows .mixedOrders = true) (h : AnyT F n P .any ops Q S last ops.size (Array.replicate ops.size false) a w.drew) : (Code.region id ops true).wpIn F n P Q a w :=
  wpIn_region_any hm (any_of_T _ _ _ _ h)
end

def plainB (ops : Array Oper) : Bool := ops.toList.all fun o => match o.op with | .defer _ => false | .select _ _ => false | _ => true
theorem plain_of {ops : Array Oper} (h : plainB ops = true) : PlainOps ops := fun j o ho => by
  have h1 := List.all_eq_true.1 h o (by simpa using Array.mem_of_getElem? ho)
  constructor
  · intro c hc; rw [hc] at h1; cases h1
  · intro cs b hc; rw [hc] at h1; cases h1
def lastB (md : Region.Mode) (ops : Array Oper) (last : Nat) : Bool := (List.range ops.size).all fun i => i == last || (match ops[last]? with | some o => o.after.any fun e => Region.binds md e && e.on == i | none => false)
theorem last_of {md : Region.Mode} {ops : Array Oper} {last : Nat} (h : lastB md ops last = true) : LastB md ops last := fun i hi hs => by
  have h1 := List.all_eq_true.1 h i (List.mem_range.2 hs)
  simp only [Bool.or_eq_true, beq_iff_eq] at h1
  rcases h1 with h1 | h1
  · exact absurd h1 hi
  · cases ho : ops[last]? with
    | none => rw [ho] at h1; cases h1
    | some o =>
      rw [ho] at h1
      obtain ⟨e, he, hb⟩ := Array.any_eq_true'.1 h1
      simp only [Bool.and_eq_true, beq_iff_eq] at hb
      exact ⟨o, rfl, e, he, hb.1, hb.2⟩

theorem region_begin {F : Fence} {n : Nat} {P : Program} {ops : Array Oper} {Q : Exit → Act → World → Prop} {S : World → Prop} {last : Nat} {id : Nat} {a : Act} {w : World} (hm : P.follows .mixedOrders = true)
    (hp : plainB ops = true) (hl : lastB .any ops last = true) (hS : S w.drew) (h : PlainOps ops → LastB .any ops last → S w.drew → AnyT F n P .any ops Q S last ops.size (Array.replicate ops.size false) a w.drew) : (Code.region id ops true).wpIn F n P Q a w :=
  region_T hm (h (plain_of hp) (last_of hl) hS)

end Go.Proofs.YtpjknkembghjcaaGreatDoor

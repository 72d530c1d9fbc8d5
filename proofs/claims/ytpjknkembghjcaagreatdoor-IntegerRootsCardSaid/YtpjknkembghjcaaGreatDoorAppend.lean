/- append of a slice that reads as whole numbers, nil or not, to a row of the call's own. -/
import Derived.Test.YtpjknkembghjcaaGreatDoorTrim
import Derived.Laws.AppendOwnNone
set_option linter.unusedVariables false
namespace Go.Proofs.YtpjknkembghjcaaGreatDoor
open Go.RowKit

theorem list_append_rd {P : Program} {w : World} {ops : Array Oper} {rest : List Oper} {o : Oper} {a : Act} {Q : Exit → Act → World → Prop} (hgd : o.guard = none) (s x : Operand) (t : TypeId)
    (ho : o.op = .call { callee := .builtin .append, args := #[s, x], argTypes := #[t, t] })
    (base : Nat) (e : TypeId) (i : TypeInfo) (z : Value) (bytes : Nat) (ht : P.underlying t = some (.slice e)) (hi : P.info? e = some i) (hz : i.zero = some z)
    (hsize : i.size = 1) (hby : i.bytes = bytes) (hzs : z.cells.size = 1) (v : Value) (n : Nat) (xs : List Value) (hs : a.eval s = v) (hown : w.ownsRow base e 1 v n xs)
    (kd : IntKind) (A : Option Addr) (m c : Nat) (ks : List Int) (hx : a.eval x = .slice A m c) (hr : Rd w kd A ks) (hm : ks.length = m) (hA : A = none → c = 0)
    (h63 : n + m ≤ maxLen) (hbytes : (n + m) * bytes ≤ 140737488355328) (hbase : base ≤ w.heap.size)
    (h : ∀ v' w', w'.ownsRow base e 1 v' (n + m) (xs ++ ks.map (Value.int kd)) → w.grownBy w' v.ownBlock → wpList P ops Q rest (a.put o.dst v') w') : wpList P ops Q (o :: rest) a w := by
  cases A with
  | none =>
    have h0 : ks = [] := by
      rcases Nat.eq_zero_or_pos ks.length with h0 | h0
      · exact List.length_eq_zero_iff.1 h0
      · obtain ⟨b, off, e', _⟩ := hr.2 h0; cases e'
    have hm0 : m = 0 := by rw [← hm, h0]; rfl
    rw [hm0, hA rfl] at hx
    refine wpList_append_own_none hgd s x t ho base e i 1 ht hi v n xs hs hown hx (h v w ?_ (World.grownBy.refl _ _))
    rw [hm0, h0]
    simpa using hown
  | some ad =>
    refine wpList_append_own w hgd s x t ho base e i z 1 bytes ht hi hz hsize hby hzs (by decide) v n xs hs hown ad m c (ks.map (Value.int kd)) hx (by simp [hm]) (fun j u hj => ?_) (fun u hu => ?_) h63 hbytes hbase (fun v' w' h1 h2 _ => h v' w' h1 h2)
    · have hjl : j < ks.length := by
        rcases Nat.lt_or_ge j ks.length with h1 | h1
        · exact h1
        · rw [List.getElem?_map, List.getElem?_eq_none h1] at hj; cases hj
      obtain ⟨b, off, e', _, hc⟩ := hr.2 (by omega)
      cases e'
      have := hc j hjl
      rw [List.getElem?_map, List.getElem?_eq_getElem hjl] at hj
      cases hj
      rw [List.getD_eq_getElem?_getD, List.getElem?_eq_getElem hjl] at this
      have e2 : (⟨b, off, none⟩ : Addr).add j = ⟨b, off + j, none⟩ := by unfold Addr.add; split <;> simp_all
      rw [e2]
      exact this
    · obtain ⟨y, _, rfl⟩ := List.mem_map.1 hu
      rfl

/-- A literal of one number is a row of the call's own. -/
theorem own_lit1 (w : World) (base : Nat) (e : TypeId) (v : Value) (hb : base ≤ w.heap.size) : (w.alloc (.cells #[v] e)).ownsRow base e 1 (.slice (some ⟨w.heap.size, 0, none⟩) 1 1) 1 [v] :=
  World.ownsRow_lit (e := e) (size := 1) (base := base) w #[v] 1 hb (by unfold maxLen; omega) rfl
/-- What an owned row reads as, whatever its value. -/
theorem Rd.of_own_any {w : World} {base : Nat} {e : TypeId} {k : IntKind} {v : Value} {n : Nat} {os : List Int} (h : w.ownsRow base e 1 v n (os.map (Value.int k))) (hb : n ≤ 1000000000000) :
    ∃ A c, v = .slice A n c ∧ n ≤ c ∧ Rd w k A os ∧ os.length = n ∧ (∀ ad, A = some ad → base ≤ ad.block) ∧ (A = none → c = 0) := by
  have hl : os.length = n := by simpa using h.1
  rcases h.2 with ⟨rfl, h0⟩ | ⟨g, cap, cur, rfl, hg, hh, hn, hm, hs, htk⟩
  · subst h0
    obtain rfl : os = [] := List.length_eq_zero_iff.1 hl
    exact ⟨none, 0, rfl, Nat.le_refl _, Rd.nil _ _ _, rfl, (fun _ e => by cases e), fun _ => rfl⟩
  · refine ⟨_, cap, rfl, hn, ⟨by omega, fun h0 => ⟨g, 0, rfl, (Array.getElem?_eq_some_iff.1 hh).1, fun j hj => ?_⟩⟩, hl, (fun ad e => by cases e; exact hg), fun e => by cases e⟩
    have := h.cellAt j (by omega)
    rw [Nat.zero_add, this, List.getElem?_map, List.getD_eq_getElem?_getD, List.getElem?_eq_getElem hj]; rfl

theorem MgN.trimmed {B : Nat} {w : World} {a : Option Addr} {cap : Nat} {os : List Int} {x : Int} (hr : Rd w .u64 a os) (hp : Mag.Pcs 1000000000 os) (hc : os.length ≤ cap) (hx : Mag.pv 1000000000 os = x) (hB : ∀ ad, a = some ad → B ≤ ad.block) (hn : a = none → cap = 0) :
    MgN B w (.slice a (Mag.trimN os) cap) x :=
  ⟨a, Mag.trimN os, cap, os.take (Mag.trimN os), rfl, by rw [List.length_take, Nat.min_eq_left (Mag.trimN_le _)], Nat.le_trans (Mag.trimN_le _) hc, hr.take _, hp.take _,
    Mag.trm_take (Mag.trimN_le _) (Mag.trimN_last _), by rw [Mag.pv_take_zeros _ _ _ (Mag.trimN_le _) (Mag.trimN_zeros _), hx], hB, hn⟩
theorem Rd.store {w : World} {k : IntKind} {A : Option Addr} {xs : List Int} (h : Rd w k A xs) (b : Nat) (hb : ∀ ad, A = some ad → ad.block ≠ b) (u : Value) : Rd (w.setCell ⟨b, 0, none⟩ u) k A xs := by
  refine ⟨h.1, fun h0 => ?_⟩
  obtain ⟨b', off, e, hlt, hc⟩ := h.2 h0
  have hne := hb _ e
  exact ⟨b', off, e, by simpa using hlt, fun j hj => by rw [World.cell?_setCell_other _ _ _ _ (by intro e'; have h1 := congrArg Addr.block e'; first | exact hne h1 | exact hne h1.symm)]; exact hc j hj⟩

theorem grownBy_of_below {w w1 : World} (h : Below w.heap.size w w1) : w.grownBy w1 none := ⟨h.os, h.tape, h.output, h.size, fun i hi _ => h.block i hi⟩

/-- What a round of the long division keeps: the row of the quotient; all below it. -/
def Rnd (w W2 : World) (g n : Nat) (qs : List Int) (wr : World) : Prop :=
  wr.ownsRow (w.heap.size + 2) 56 1 (.slice (some ⟨g, 0, none⟩) n n) n (qs.map (Value.int .u64)) ∧ Below g W2 wr ∧ Below w.heap.size w wr ∧ g < wr.heap.size
theorem Rnd.below {w W2 : World} {g n : Nat} {qs : List Int} {wr w1 : World} (h : Rnd w W2 g n qs wr) (hb : Below wr.heap.size wr w1) : Rnd w W2 g n qs w1 :=
  ⟨h.1.kept (grownBy_of_below hb) (.inr (by simp [Value.ownBlock])), h.2.1.trans (hb.mono (Nat.le_of_lt h.2.2.2)), h.2.2.1.trans (hb.mono h.2.2.1.size), Nat.lt_of_lt_of_le h.2.2.2 hb.size⟩
theorem Rnd.drewN {w W2 : World} {g n : Nat} {qs : List Int} {wr : World} (h : Rnd w W2 g n qs wr) (k : Nat) : Rnd w W2 g n qs (wr.drewN k) := ⟨h.1, below_drewN h.2.1 k, below_drewN h.2.2.1 k, h.2.2.2⟩
theorem Rnd.store {w W2 : World} {g n : Nat} {qs : List Int} {wr : World} (h : Rnd w W2 g n qs wr) (hg : w.heap.size ≤ g) (j : Nat) (d : Int) : Rnd w W2 g n (qs.set j d) (wr.setCell ⟨g, j, none⟩ (.int .u64 d)) :=
  ⟨by rw [List.map_set]; exact (h.1.stored j _).1, h.2.1.setCell (p := ⟨g, j, none⟩) (Nat.le_refl _) _, h.2.2.1.setCell (p := ⟨g, j, none⟩) hg _, by simpa using h.2.2.2⟩
theorem MgN.stored {B g j n m : Nat} {w wr : World} {os : List Value} {v u : Value} {x : Int} (h : MgN B wr v x) (hb : g < B) (hr : wr.ownsRow m 56 1 (.slice (some ⟨g, 0, none⟩) n n) n os) : MgN B (wr.setCell ⟨g, j, none⟩ u) v x :=
  h.kept (by simp) fun b' h1 h2 => (hr.stored j u).2.block b' h2 (fun e => by cases e; omega)

end Go.Proofs.YtpjknkembghjcaaGreatDoor

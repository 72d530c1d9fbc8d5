/- number.close: an integer put together. -/
import Derived.Test.YtpjknkembghjcaaGreatDoorChunk
import Derived.Test.YtpjknkembghjcaaGreatDoorOpen
import Derived.Test.YtpjknkembghjcaaGreatDoorBackward
import Derived.Test.YtpjknkembghjcaaGreatDoorBuilder
import Derived.Test.YtpjknkembghjcaaGreatDoorFormat
import Derived.Test.YtpjknkembghjcaaGreatDoorQuick
import Derived.RangeFuncCalls
set_option linter.unusedVariables false
set_option linter.unusedSimpArgs false
namespace Go.Proofs.YtpjknkembghjcaaGreatDoor
open Go.RowKit Go.Lib Go.Shelf Go.Proofs.YtpjknkembghjcaaGreatDoor.Dec Go.Proofs.YtpjknkembghjcaaGreatDoor.Mag Go.Proofs.YtpjknkembghjcaaGreatDoor.Chunk

attribute [local go_sem] Oper.semAt_some

/-- What a round writes. -/
def cstep {n : Nat} (t : List UInt8) (x : Pc n) : List UInt8 :=
  t ++ ((if x.1.1 + 1 < n then List.replicate (9 - (decDigits x.1.2.toNat).length) 48 else []) ++ decDigits x.1.2.toNat)
def ctxt {n : Nat} (pre : List (Pc n)) : List UInt8 := pre.foldl cstep []
theorem ctxt_snoc {n : Nat} (pre : List (Pc n)) (x : Pc n) : ctxt (pre ++ [x]) = cstep (ctxt pre) x := by simp [ctxt]
theorem piece_len {n : Nat} (x : Pc n) : (decDigits x.1.2.toNat).length ≤ 9 :=
  dec_len_le (by decide) (by have := x.2.2.1; have := x.2.2.2; omega)
theorem ctxt_len {n : Nat} (pre : List (Pc n)) : (ctxt pre).length ≤ 9 * pre.length := by
  have key : ∀ (k : Nat) (pre : List (Pc n)), pre.length = k → (ctxt pre).length ≤ 9 * k := by
    intro k
    induction k with
    | zero =>
      intro pre hp
      obtain rfl : pre = [] := List.length_eq_zero_iff.1 hp
      simp [ctxt]
    | succ k ih =>
      intro pre hp
      have hne : pre ≠ [] := fun e => by rw [e] at hp; simp at hp
      obtain ⟨r, d, rfl⟩ : ∃ r d, pre = r ++ [d] := ⟨pre.dropLast, pre.getLast hne, (List.dropLast_concat_getLast hne).symm⟩
      have h1 := ih r (by simpa using hp)
      have h2 := piece_len d
      rw [ctxt_snoc, cstep, List.length_append, List.length_append]
      split
      · rw [List.length_replicate]; omega
      · simp; omega
  exact key _ pre rfl
theorem ctxt_downs {xs : List Int} (hp : Pcs 1000000000 xs) (ht : Trm xs) (k : Nat) (h1 : 1 ≤ k) (hk : k ≤ xs.length) :
    ctxt (downs xs hp k hk) = decDigits (pv 1000000000 (xs.drop (xs.length - k))).toNat := by
  induction k with
  | zero => omega
  | succ k ih =>
    rw [downs, ctxt_snoc, cstep]
    by_cases h0 : k = 0
    · subst h0
      have : ¬ (xs.length - 1 - 0 + 1 < xs.length) := by omega
      simp only [this, if_false, downs, ctxt, List.foldl_nil, List.nil_append]
      rw [show xs.length - (0 + 1) = xs.length - 1 by omega, close_first (by omega)]
      rfl
    · have h2 : xs.length - 1 - k + 1 < xs.length := by omega
      have h3 := hp.at (by omega) (xs.length - 1 - k)
      rw [ih (by omega) (by omega)]
      simp only [h2, if_true]
      rw [pad_take (by omega), show xs.length - k = xs.length - 1 - k + 1 by omega, show xs.length - (k + 1) = xs.length - 1 - k by omega]
      exact close_step hp ht (by omega)
theorem ctxt_end {xs : List Int} (hp : Pcs 1000000000 xs) (ht : Trm xs) (h0 : 0 < xs.length) : ctxt (downs xs hp xs.length (Nat.le_refl _)) = decDigits (pv 1000000000 xs).toNat := by
  rw [ctxt_downs hp ht _ h0, Nat.sub_self, List.drop_zero]

/-- A builder is kept by whatever turns no cells. -/
theorem builder_kept {T e : TypeId} {B b : Nat} {bs : List Value} {W W' : World} {row : Option Nat} (h : IsBuilderF T e B b bs W) (hg : W.grownBy W' row) (hr : ∀ r, row = some r → ∃ o : Obj, W.heap[r]? = some o ∧ o.isCells = false) : IsBuilderF T e B b bs W' := by
  have key : ∀ p, BuilderAtF T e B b p bs W → BuilderAtF T e B b p bs W' := by
    rintro p ⟨hB, v, hb, hown, hne⟩
    have hlt : b < W.heap.size := (Array.getElem?_eq_some_iff.1 hb).1
    refine ⟨hB, v, ?_, ?_, hne⟩
    · rw [hg.block b hlt (fun e => by
        obtain ⟨o, ho, hc⟩ := hr b e.symm
        rw [hb] at ho; cases ho; cases hc)]
      exact hb
    · refine hown.kept hg ?_
      rcases hown.2 with ⟨rfl, _⟩ | ⟨g, cap, cur, fz, rfl, _, hgc, _⟩
      · exact .inl rfl
      · refine .inr fun e => ?_
        obtain ⟨o, ho, hc⟩ := hr g e.symm
        rw [hgc] at ho; cases ho; cases hc
  exact h.elim (fun x => .inl (key _ x)) (fun x => .inr (key _ x))
theorem builder_own {β : Type} (T e : TypeId) (B b : Nat) (f : β → List Value) : Own (fun s W => IsBuilderF T e B b (f s) W) :=
  fun s W W' row hs hg hr => builder_kept hs hg hr
theorem builder_below {T e : TypeId} {B b : Nat} {bs : List Value} {W W' : World} (h : IsBuilderF T e B b bs W) (hb : Below W.heap.size W W') : IsBuilderF T e B b bs W' :=
  builder_kept h (grownBy_of_below hb) (fun r e => by cases e)
theorem tab_below {P : Program} {w W : World} {name : String} {k : IntKind} {zs : List Int} (h : TabIs P w name k zs) (hb : Below w.heap.size w W) : TabIs P W name k zs := by
  unfold TabIs World.var? at *
  cases hg : P.globalNamed name with
  | none => simp [hg] at h
  | some g =>
    simp only [hg, Option.bind_some] at h ⊢
    have hlt : g < w.heap.size := by
      rcases Nat.lt_or_ge g w.heap.size with h' | h'
      · exact h'
      · rw [Array.getElem?_eq_none h'] at h; simp at h
    rw [hb.block g hlt]
    exact h
/-- A block of cells that stands. -/
theorem heap_own {β : Type} (B : Nat) (cs : Array Value) (t : TypeId) (fz : Nat × Nat) : Own (fun (_ : β) W => W.heap[B]? = some (.cells cs t fz)) :=
  fun s W W' row hs hg hr => by
    show W'.heap[B]? = _
    rw [hg.block B (Array.getElem?_eq_some_iff.1 hs).1 (fun e => by
      obtain ⟨o, ho, hc⟩ := hr B e.symm
      rw [hs] at ho; cases ho; cases hc)]
    exact hs
theorem keeps_of_others {e : TypeId} {b : Nat} {W W' : World} {T : TypeId} {cs : Array Value} {fz : Nat × Nat} (h : OthersKept e (some b) W W') (hb : W.heap[b]? = some (.cells cs T fz)) (hs : W.heap.size ≤ W'.heap.size) : KeepsOthers W W' :=
  ⟨hs, fun k o hk ho => h k o hk (fun e1 => by cases e1; rw [hb] at hk; cases hk; cases ho) (fun c fz' e1 => by subst e1; cases ho)⟩
theorem zeros_cut {k : Nat} (h : k ≤ 9) : (⟨#[48, 48, 48, 48, 48, 48, 48, 48, 48]⟩ : ByteArray).extract k 9 = ⟨(List.replicate (9 - k) 48).toArray⟩ := by
  have := str_cut (List.replicate 9 48) k 9 (by simp)
  rw [List.drop_replicate] at this
  exact this

set_option maxHeartbeats 4000000 in
set_option maxRecDepth 100000 in
theorem close_pos (neg : Bool) (A : Option Addr) (ca : Nat) (xs : List Int) (w : World) (hx : Rd w .u64 A xs) (hl : xs.length ≤ 1000000) (hp : Pcs 1000000000 xs) (ht : Trm xs) (h0 : 0 < xs.length)
    (htab : TabIs Tryz.prog w "internal/strconv.uint64pow10" .u64 pow10Tab) :
    Calls Tryz.prog 40 #[.agg #[.bool neg, .slice A xs.length ca]] w fun e w' => e = .returned (.string ⟨(signed neg (decDigits (pv 1000000000 xs).toNat)).toArray⟩) ∧ Below w.heap.size w w' := by
  refine (callsIn_wide (n := 3)).1 ?_
  refine callsIn_of_wp_marks Tryz.func40 rfl trivial ?_ rfl
  simp only [Tryz.ntmps40, List.size_toArray, List.length_cons, List.length_nil, Nat.reduceAdd, Nat.reduceSub, Array.replicate_succ, Array.replicate_zero, List.push_toArray, List.append_toArray, List.nil_append, List.cons_append]
  have hl1 : ((xs.length : Int) == 0) = false := beq_eq_false_iff_ne.2 (by omega)
  have hs0 : (w.alloc (.cells #[.bool neg, .slice A xs.length ca] 51)).heap.size = w.heap.size + 1 := by simp
  have hB0 : IsBuilderF 91 5 (w.heap.size + 1) (w.heap.size + 1) [] ((w.alloc (.cells #[.bool neg, .slice A xs.length ca] 51)).alloc (.cells #[.pointer none, .slice none 0 0] 91)) := by
    have := IsBuilderF.of (fresh_isBuilder 91 5 (w.alloc (.cells #[.bool neg, .slice A xs.length ca] 51)))
    rwa [hs0] at this
  have hbw : Below w.heap.size w ((w.alloc (.cells #[.bool neg, .slice A xs.length ca] 51)).alloc (.cells #[.pointer none, .slice none 0 0] 91)) := ((Below.refl _ _).alloc (Nat.le_refl _) _).alloc (by simp) _
  have hN0 : ((w.alloc (.cells #[.bool neg, .slice A xs.length ca] 51)).alloc (.cells #[.pointer none, .slice none 0 0] 91)).heap[w.heap.size]? = some (.cells #[.bool neg, .slice A xs.length ca] 51 (0, 0)) := by
    rw [Below.heap_alloc _ _ _ (by simp)]; exact World.alloc_heap_new w _
  have hsz0 : ((w.alloc (.cells #[.bool neg, .slice A xs.length ca] 51)).alloc (.cells #[.pointer none, .slice none 0 0] 91)).heap.size = w.heap.size + 2 := by simp
  have hsz1 := Nat.le_of_eq hsz0.symm
  cases neg
  gi_wp2_with (refine ⟨trivial, ?_⟩; gi_at_call 64; refine (backward_in Fence.wide _ trivial rfl _ _ _ _).mono ?_; rintro e w' ⟨rfl, rfl⟩; refine Hid.out ?_)
  refine Lib.hid ?_
  obtain ⟨sg, hsg⟩ : ∃ sg : List UInt8, sg = [] := ⟨_, rfl⟩
  have HSG := Lib.hid (show sg.length ≤ 1 ∧ signed false (decDigits (pv 1000000000 xs).toNat) = sg ++ decDigits (pv 1000000000 xs).toNat by subst hsg; exact ⟨by simp, rfl⟩)
  have hB1 : IsBuilderF 91 5 (w.heap.size + 1) (w.heap.size + 1) (byteCells sg) ((w.alloc (.cells #[.bool false, .slice A xs.length ca] 51)).alloc (.cells #[.pointer none, .slice none 0 0] 91)) := by rw [hsg]; exact hB0
  have hrW := hsz0
  clear hB0 hs0 hsg hsz0
  generalize ((w.alloc (.cells #[.bool false, .slice A xs.length ca] 51)).alloc (.cells #[.pointer none, .slice none 0 0] 91)) = W1 at *
  rotate_left
  gi_wp2_with (refine ⟨trivial, ?_⟩; gi_at_call 66; refine (callsIn_wide.2 (writeByte_k (w.heap.size + 1) (w.heap.size + 1) [] 45 _ hB0 (by simp) (by simp))).mono ?_; rintro e W1 ⟨rfl, ha1, hb1, hk1⟩; refine Hid.out ?_)
  refine Lib.hid ?_
  obtain ⟨sg, hsg⟩ : ∃ sg : List UInt8, sg = [45] := ⟨_, rfl⟩
  have HSG := Lib.hid (show sg.length ≤ 1 ∧ signed true (decDigits (pv 1000000000 xs).toNat) = sg ++ decDigits (pv 1000000000 xs).toNat by subst hsg; exact ⟨by simp, rfl⟩)
  have hB1 : IsBuilderF 91 5 (w.heap.size + 1) (w.heap.size + 1) (byteCells sg) W1 := by rw [hsg]; exact Or.inr ha1
  have hN1 := (hb1.block w.heap.size (by omega)).trans hN0
  have hbw1 := hbw.trans (hb1.mono (Nat.le_succ _))
  have hsz2 : w.heap.size + 2 ≤ W1.heap.size := by have := hb1.size; omega
  clear hB0 hs0 hsg hsz0 ha1 hb1 hk1 hN0 hbw hsz1
  have hN0 := hN1
  have hbw := hbw1
  have hsz1 := hsz2
  clear hN1 hbw1 hsz2
  have cN : W1.cell? ⟨w.heap.size, 1, none⟩ = some (.slice A xs.length ca) := by rw [cell_of_heap hN0]; rfl
  gi_wp2_with (refine ⟨trivial, ?_⟩; gi_at_call 64; refine (backward_in Fence.wide _ trivial rfl _ _ _ _).mono ?_; rintro e w' ⟨rfl, rfl⟩; refine Hid.out ?_)
  refine Lib.hid ?_
  clear cN
  all_goals
    generalize hW2 : W1.alloc (.cells #[.slice A xs.length ca] 49) = W2
    have hr2 : W1.heap.size + 1 = W2.heap.size := by rw [← hW2]; simp
    have hb2 : Below w.heap.size w W2 := by rw [← hW2]; exact hbw.alloc (by omega) _
    have bS2 : Boxed W2 W1.heap.size 49 (.slice A xs.length ca) := by rw [← hW2]; exact Boxed.new W1 _ _
    have hB2 : IsBuilderF 91 5 (w.heap.size + 1) (w.heap.size + 1) (byteCells sg) W2 := by
      rw [← hW2]; exact builder_kept hB1 (World.grownBy_alloc W1 _ none) (fun r e => by cases e)
    have hN2 := (show W2.heap[w.heap.size]? = W1.heap[w.heap.size]? by rw [← hW2]; exact Below.heap_alloc _ _ _ (by omega)).trans hN0
    have hx2 : Rd W2 .u64 A xs := hx.below (Nat.le_refl _) hb2
    have hAb : ∀ b o, A = some ⟨b, o, none⟩ → 0 < xs.length → b < w.heap.size := fun b o e h0 => by
      obtain ⟨b', o', e', hb', _⟩ := hx.2 h0
      rw [e] at e'
      cases e'
      exact hb'
    clear hW2 hB1 hN0 hbw
    first
      | (rw [hrW] at hr2 bS2; generalize hrr : w.heap.size + 2 = r at hr2 bS2 ⊢; have hge : w.heap.size + 2 ≤ r := Nat.le_of_eq hrr; clear hrr hrW hsz1)
      | (generalize W1.heap.size = r at *; have hge : w.heap.size + 2 ≤ r := hsz1; clear hsz1)
    gi_wp2
    apply wpIn_rangeFunc_ownG (F := Fence.wide) (n := 3) rfl (by omega) (gf := 86) (lb := #[.pointer (some ⟨r, 0, none⟩)]) rfl trivial (enters_of Tryz.func86 (by kernel_rfl) rfl)
      (backward_stops Fence.wide 2 trivial rfl (by omega) r w.heap.size A xs.length ca xs hp W2 rfl (by omega) bS2.cell hx2 hAb) (fun h k => KpR.trans h k) (KpR.put (by omega) (by omega)) (Below.refl _ _) (fun _ => rfl)
      (fun pre W => IsBuilderF 91 5 (w.heap.size + 1) (w.heap.size + 1) (byteCells (sg ++ ctxt pre)) W ∧ (W.heap[w.heap.size]? = some (.cells #[.bool _, .slice A xs.length ca] 51 (0, 0)) ∧ Boxed W r 49 (.slice A xs.length ca)) ∧ Below w.heap.size w W)
      (fun _ _ _ => False)
      (OwnFrom.and ((builder_own _ _ _ _ (fun pre : List (Pc xs.length) => byteCells (sg ++ ctxt pre))).from _) (OwnFrom.and (OwnFrom.and ((heap_own _ _ _ _).from _) ((boxed_own _ _ _).from _)) (ownFrom_below (Nat.le_refl _) (by omega))))
      (fun _ _ _ _ _ hs _ _ => hs)
      ⟨by simpa [ctxt] using hB2, ⟨hN2, bS2⟩, hb2⟩
    case hassign =>
      intro l x W K hK
      gi_wp2
      exact hK
    case hbody =>
      rintro l pre ⟨⟨i, x⟩, hi1, hx0, hx1⟩ W ⟨hBd, ⟨hN, hS⟩, hbl⟩ hlen
      have CS := Lib.hid (ctxt_snoc pre ⟨(i, x), hi1, hx0, hx1⟩)
      have hlp := ctxt_len pre
      have hpl := piece_len (n := xs.length) ⟨(i, x), hi1, hx0, hx1⟩
      generalize ctxt pre = t at *
      obtain ⟨u, rfl⟩ : ∃ u : Nat, x = (u : Int) := ⟨x.toNat, by omega⟩
      have hF := Lib.hid (formatUint_n u (by omega) W (tab_below htab hbl))
      dsimp only at hpl
      rw [Int.toNat_natCast] at hpl
      have hlt0 := hbl.size
      have hsl := HSG.out.1
      gi_wp2_with (refine ⟨trivial, ?_⟩; gi_at_call 67; refine (CallsIn.inRound l (callsIn_wide.2 hF.out)).mono ?_; rintro e w2 ⟨rfl, hg2⟩; refine Hid.out ?_)
      refine Lib.hid ?_
      have hb2' := below_grown hg2
      have hB3 := builder_below hBd hb2'
      have hltN : w.heap.size < W.heap.size := (Array.getElem?_eq_some_iff.1 hN).1
      have hN3 := (hb2'.block _ hltN).trans hN
      have hS3 := boxed_under hS hb2' hS.lt
      have hbl3 := hbl.trans (hb2'.mono hbl.size)
      have hKO : KeepsOthers W w2 := ⟨hb2'.size, fun k o hk ho => (hb2'.block k (Array.getElem?_eq_some_iff.1 hk).1).trans hk⟩
      have hS0 := hS.cell
      have hbW := hb2'.mono hlt0
      clear hg2 hb2' hF hBd hN hS hbl hltN
      have hsz := str_size (decDigits u)
      have cN : w2.cell? ⟨w.heap.size, 1, none⟩ = some (.slice A xs.length ca) := by rw [cell_of_heap hN3]; rfl
      have hblk : ∃ cs T fz, w2.heap[w.heap.size + 1]? = some (.cells cs T fz) := by
        rcases hB3 with ⟨_, v, h, _⟩ | ⟨_, v, h, _⟩ <;> exact ⟨_, _, _, h⟩
      obtain ⟨cs0, T0, fz0, hblk⟩ := hblk
      have hlb : (byteCells (sg ++ t)).length ≤ 1 + 9000000 := by simp [byteCells]; omega
      have hsW : w.heap.size + 1 ≤ w2.heap.size := by have := (Array.getElem?_eq_some_iff.1 hblk).1; omega
      by_cases hi2 : i + 1 < xs.length
      · have hi3 : (i : Int) < (xs.length : Int) - 1 := by omega
        have hz1 := zeros_cut hpl
        have hzs : (⟨(List.replicate (9 - (decDigits u).length) 48).toArray⟩ : ByteArray).size = 9 - (decDigits u).length := by rw [str_size, List.length_replicate]
        have hW1 := Lib.hid (writeString_k (w.heap.size + 1) (w.heap.size + 1) (byteCells (sg ++ t)) ⟨(List.replicate (9 - (decDigits u).length) 48).toArray⟩ w2 hB3 (by rw [hzs]; omega) hsW)
        have HZ1 := Lib.hid hz1
        clear hz1
        gi_wp2_with (refine ⟨trivial, ?_⟩; gi_at_call 68; rw [HZ1.out]; refine (CallsIn.inRound l (callsIn_wide.2 hW1.out)).mono ?_; rintro e w3 ⟨rfl, hB4, hb4, hk4⟩; refine Hid.out ?_)
        refine Lib.hid ?_
        have hN4 := (hb4.block w.heap.size (Nat.lt_succ_self _)).trans hN3
        have hS4 := hk4 r _ hS3 (fun e => by cases e; omega) (fun c fz e => by cases e)
        have hKO4 := hKO.trans (keeps_of_others hk4 hblk hb4.size)
        have hbl4 := hbl3.trans (hb4.mono (Nat.le_succ _))
        have hblk4 : ∃ cs T fz, w3.heap[w.heap.size + 1]? = some (.cells cs T fz) := by
          obtain ⟨_, v, h, _⟩ := hB4; exact ⟨_, _, _, h⟩
        obtain ⟨cs4, T4, fz4, hblk4⟩ := hblk4
        have hB5 : IsBuilderF 91 5 (w.heap.size + 1) (w.heap.size + 1) (byteCells (sg ++ (t ++ List.replicate (9 - (decDigits u).length) 48))) w3 := by
          refine Or.inr ?_
          rw [strCells_eq] at hB4
          simpa [byteCells] using hB4
        have hlb4 : (byteCells (sg ++ (t ++ List.replicate (9 - (decDigits u).length) 48))).length ≤ 1 + 9000000 + 9 := by simp [byteCells]; omega
        have hW2 := Lib.hid (writeString_k (w.heap.size + 1) (w.heap.size + 1) _ ⟨(decDigits u).toArray⟩ w3 hB5 (by rw [hsz]; omega) (by have := hb4.size; omega))
        have hb4' := hb4
        clear hB4 hb4 hk4 hW1 hB3 hN3 hS3 hbl3 hKO hblk cN
        gi_wp2_with (refine ⟨trivial, ?_⟩; gi_at_call 68; refine (CallsIn.inRound l (callsIn_wide.2 hW2.out)).mono ?_; rintro e w4 ⟨rfl, hB6, hb6, hk6⟩; refine Hid.out ?_)
        refine Lib.hid ?_
        have hN6 := (hb6.block w.heap.size (Nat.lt_succ_self _)).trans hN4
        have hS6 := hk6 r _ hS4 (fun e => by cases e; omega) (fun c fz e => by cases e)
        have hKO6 := hKO4.trans (keeps_of_others hk6 hblk4 hb6.size)
        have hbl6 := hbl4.trans (hb6.mono (Nat.le_succ _))
        have hbW6 := (hbW.trans (hb4'.mono (Nat.le_succ _))).trans (hb6.mono (Nat.le_succ _))
        gi_wp2
        refine ⟨hKO6.from _, ⟨hbW6, by rw [Boxed.cell hS6, hS0]⟩, ?_, ⟨hN6, hS6⟩, hbl6⟩
        refine Or.inr ?_
        rw [strCells_eq] at hB6
        rw [CS.out]
        simpa [cstep, hi2, byteCells] using hB6
      · have hi3 : ¬ (i : Int) < (xs.length : Int) - 1 := by omega
        have hW1 := Lib.hid (writeString_k (w.heap.size + 1) (w.heap.size + 1) (byteCells (sg ++ t)) ⟨(decDigits u).toArray⟩ w2 hB3 (by rw [hsz]; omega) hsW)
        gi_wp2_with (refine ⟨trivial, ?_⟩; gi_at_call 68; refine (CallsIn.inRound l (callsIn_wide.2 hW1.out)).mono ?_; rintro e w4 ⟨rfl, hB6, hb6, hk6⟩; refine Hid.out ?_)
        refine Lib.hid ?_
        have hN6 := (hb6.block w.heap.size (Nat.lt_succ_self _)).trans hN3
        have hS6 := hk6 r _ hS3 (fun e => by cases e; omega) (fun c fz e => by cases e)
        have hKO6 := hKO.trans (keeps_of_others hk6 hblk hb6.size)
        have hbl6 := hbl3.trans (hb6.mono (Nat.le_succ _))
        have hbW6 := hbW.trans (hb6.mono (Nat.le_succ _))
        gi_wp2
        refine ⟨hKO6.from _, ⟨hbW6, by rw [Boxed.cell hS6, hS0]⟩, ?_, ⟨hN6, hS6⟩, hbl6⟩
        refine Or.inr ?_
        rw [strCells_eq] at hB6
        rw [CS.out]
        simpa [cstep, hi2, byteCells] using hB6
    case hdone =>
      rintro D ys W hD rfl ⟨hBd, ⟨hN, hS⟩, hbl⟩ hK
      have hE := ctxt_end hp ht h0
      rw [hE] at hBd
      gi_wp2_with (refine ⟨trivial, ?_⟩; gi_at_call 69; refine (callsIn_wide.2 (Tryz.Builder_String_any_k (w.heap.size + 1) (w.heap.size + 1) (sg ++ decDigits (pv 1000000000 xs).toNat) _ hBd (Nat.le_of_lt (by rcases hBd with h | h <;> exact h.lt)))).mono ?_; rintro e w3 ⟨rfl, hB4, hb4, hk4⟩; refine Hid.out ?_)
      refine Lib.hid ?_
      have hblk : ∃ cs T fz, W.heap[w.heap.size + 1]? = some (.cells cs T fz) := by
        rcases hBd with ⟨_, v, h, _⟩ | ⟨_, v, h, _⟩ <;> exact ⟨_, _, _, h⟩
      obtain ⟨cs0, T0, fz0, hblk⟩ := hblk
      have hK3 := hk4 D _ hK (fun e => by cases e; rw [hK] at hblk; cases hblk) (fun c fz e => by cases e)
      have hBf := (hbl.trans (hb4.mono (Nat.le_succ _))).trans (belowK_b (w := w) (Nat.le_refl _) _ D _ (.deferred none) (by have := hb2.size; omega) hK3 rfl rfl)
      gi_wp2
      refine ⟨by simp, .inl ⟨_, _, rfl, run_takeDeferred hK3, ?_⟩⟩
      refine ⟨.string ⟨(sg ++ decDigits (pv 1000000000 xs).toNat).toArray⟩, by simp [results, Tryz.results40, go_sem], ?_, hBf⟩
      rw [HSG.out.2]
    case hstop =>
      rintro D c pre W _ _ h _
      exact h.elim

set_option maxHeartbeats 1000000 in
theorem close_zero (neg : Bool) (A : Option Addr) (ca : Nat) (w : World) :
    Calls Tryz.prog 40 #[.agg #[.bool neg, .slice A 0 ca]] w fun e w' => e = .returned (.string ⟨#[48]⟩) ∧ Below w.heap.size w w' := by
  go_enter Tryz.func40, Tryz.ntmps40
  go_wp2
  go_ret
  exact ⟨rfl, (Below.refl _ _).alloc (Nat.le_refl _) _⟩

/-- close hands back the canonical numeral. -/
theorem close_n (neg : Bool) (v : Value) (x : Int) (w : World) (hx : Mg w v x) (bx : x < LIM) (htab : TabIs Tryz.prog w "internal/strconv.uint64pow10" .u64 pow10Tab) :
    Calls Tryz.prog 40 #[.agg #[.bool neg, v]] w fun e w' => e = .returned (.string ⟨(itoa (if neg then -x else x)).toArray⟩) ∧ Below w.heap.size w w' := by
  obtain ⟨a, n, c, xs, rfl, rfl, hc, hr, hp, ht, rfl⟩ := hx
  rcases Nat.eq_zero_or_pos xs.length with h0 | h0
  · obtain rfl : xs = [] := List.length_eq_zero_iff.1 h0
    refine (close_zero neg a c w).mono ?_
    rintro e w' ⟨rfl, hb⟩
    refine ⟨?_, hb⟩
    rw [pv_nil]
    cases neg <;> simp [itoa_zero]
  · have hpos := ht.pos (by omega) hp h0
    refine (close_pos neg a c xs w hr (len_of_lim hp ht bx) hp ht h0 htab).mono ?_
    rintro e w' ⟨rfl, hb⟩
    refine ⟨?_, hb⟩
    have e1 : (pv 1000000000 xs).natAbs = (pv 1000000000 xs).toNat := by omega
    cases neg
    · simp only [signed, Bool.false_eq_true, if_false]
      rw [Dec.itoa_nonneg (by omega), e1]
    · simp only [signed, if_true]
      rw [Dec.itoa_neg (by omega), Int.natAbs_neg, e1]

end Go.Proofs.YtpjknkembghjcaaGreatDoor

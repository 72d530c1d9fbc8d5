/- integer.open: an integer taken apart. -/
import Derived.Test.YtpjknkembghjcaaGreatDoorChunk
import Derived.Test.YtpjknkembghjcaaGreatDoorAppend
import Derived.Test.YtpjknkembghjcaaGreatDoorMinus
import Derived.Test.YtpjknkembghjcaaGreatDoorShelf
import Derived.Deep.AppendLies
import Derived.Deep.RegionLaw
import Derived.Deep.Cut
set_option linter.unusedVariables false
namespace Go.Proofs.YtpjknkembghjcaaGreatDoor
open Go.RowKit Go.Lib Go.Proofs.YtpjknkembghjcaaGreatDoor.Dec Go.Proofs.YtpjknkembghjcaaGreatDoor.Mag Go.Proofs.YtpjknkembghjcaaGreatDoor.Chunk

/-- The size of a string (a measure). -/
def strSize (v : Value) : Nat := match v with | .string b => b.size | _ => 0
theorem strSize_mk (l : List UInt8) : strSize (.string ⟨l.toArray⟩) = l.length := by simp [strSize, ByteArray.size]
/-- A numeral's bytes: a sign, then digits. -/
def signed (neg : Bool) (ds : List UInt8) : List UInt8 := if neg then 45 :: ds else ds
theorem str_size (l : List UInt8) : (⟨l.toArray⟩ : ByteArray).size = l.length := by simp [ByteArray.size]
theorem cut_signed {neg : Bool} {ds : List UInt8} (h : AllDig ds) : trimPrefix (signed neg ds) [45] = ds ∧ hasPrefix (signed neg ds) [45] = neg := by
  cases neg
  · have : hasPrefix ds [45] = false := by
      cases ds with
      | nil => rfl
      | cons c l =>
        have := h.head
        have h1 : ((45 : UInt8) == c) = false := by
          rw [beq_eq_false_iff_ne]; intro e; subst e; revert this; decide
        simp [hasPrefix, List.isPrefixOf, h1]
    simp [signed, trimPrefix, this]
  · have : hasPrefix (45 :: ds) [45] = true := by simp [hasPrefix, List.isPrefixOf]
    simp [signed, trimPrefix, this]

theorem str_cut (l : List UInt8) (i j : Nat) (hj : l.length = j) : (⟨l.toArray⟩ : ByteArray).extract i j = ⟨(l.drop i).toArray⟩ := by
  subst hj
  apply ByteArray.ext
  simp only [ByteArray.data_extract, List.extract_toArray]
  congr 1
  rw [List.extract_eq_take_drop, List.take_of_length_le (by simp)]
theorem str_head (l : List UInt8) (i : Nat) : (⟨l.toArray⟩ : ByteArray).extract 0 i = ⟨(l.take i).toArray⟩ := by
  apply ByteArray.ext
  simp

set_option linter.unusedSimpArgs false in
set_option maxHeartbeats 1000000 in
set_option maxRecDepth 100000 in
/-- open takes a numeral apart: its sign, and the magnitude of its digits. -/
theorem open_mg (neg : Bool) (ds : List UInt8) (w : World) (hs : ds.length ≤ 1000000) (hd : AllDig ds) :
    Calls Tryz.prog 36 #[.string ⟨(signed neg ds).toArray⟩] w fun e w' => ∃ p, e = .returned (.agg #[.bool neg, p]) ∧ MgN w.heap.size w' p (dval ds) ∧ Below w.heap.size w w' := by
  obtain ⟨i0, hi, hz0, hz1, hz2⟩ := info_parts info_u64
  have HC := Lib.hid (cut_signed (neg := neg) hd)
  go_enter Tryz.func36, Tryz.ntmps36
  go_wp2_with (first
    | (go_at_call 58; refine (Tryz.strings_CutPrefix _ _ _).mono ?_; rintro e w' ⟨rfl, rfl⟩; simp only [HC.out.1, HC.out.2]; refine Hid.out ?_))
  refine Lib.hid ?_
  have hsz : (⟨ds.toArray⟩ : ByteArray).size = ds.length := str_size ds
  go_wp2_with (at_make; refine wpList_make_own _ rfl _ _ 49 rfl (w.heap.size + 1) 56 i0 (.int .u64 0) 1 Tryz.underlying49 hi hz0 hz1 _ _ _ (ds.length / 9 + 1) rfl rfl (by omega) (by rw [hz2]; omega) (by unfold maxLen; omega) (by simp) ?_; intro w1 hown1 hgrow1)
  obtain ⟨W0, hW0⟩ : ∃ W0, W0 = w.alloc (.cells #[.bool false, .slice none 0 0] 51) := ⟨_, rfl⟩
  have hW0s : W0.heap.size = w.heap.size + 1 := by rw [hW0]; simp
  have hnx1 : Below (w.heap.size + 1) W0 w1 := by rw [hW0]; exact (Below.refl _ _).grown hgrow1 (by simp) (fun k e => by cases e)
  clear hgrow1
  have HSZ := Lib.hid hsz
  clear hsz
  go_loopw [3, 5] (fun sv p wr => ∃ (m : Nat) (ps : List Int) (g c : Nat), m ≤ ds.length ∧ sv = .string ⟨(ds.take m).toArray⟩ ∧ p = .slice (some ⟨g, 0, none⟩) ps.length c ∧
      wr.ownsRow (w.heap.size + 1) 56 1 p ps.length (ps.map (Value.int .u64)) ∧ Hid (Pcs 1000000000 ps) ∧ (0 < m → m + 9 * ps.length = ds.length) ∧ ps.length ≤ ds.length / 9 + 1 ∧
      Hid (pv 1000000000 ps + 1000000000 ^ ps.length * (dval (ds.take m) : Int) = dval ds) ∧ Below (w.heap.size + 1) W0 wr) (fun s _ _ => strSize s)
  case atStart => exact ⟨ds.length, [], _, _, Nat.le_refl _, by rw [List.take_length], rfl, by simpa using hown1, Lib.hid Pcs.nil, fun _ => by simp, Nat.zero_le _, Lib.hid (by simp [pv, List.take_length]), hnx1⟩
  case round =>
    obtain ⟨m, ps, gp, cp, hm, rfl, rfl, hown, HP, hmn, hcap, HV, hnx⟩ := hrel
    have hsz : (⟨(ds.take m).toArray⟩ : ByteArray).size = m := by rw [str_size, List.length_take]; omega
    by_cases h0 : 0 < m
    · have hmn := hmn h0
      go_upto_region 5 with (fail)
      obtain ⟨k, hk, hkm, hk9⟩ : ∃ k : Nat, max ((m : Int) - 9) 0 = (k : Int) ∧ k ≤ m ∧ k = m - 9 := ⟨m - 9, by omega, by omega, rfl⟩
      rw [hk]
      clear hk
      have hx1 : (⟨(ds.take m).toArray⟩ : ByteArray).extract k m = ⟨((ds.take m).drop (m - 9)).toArray⟩ := by
        rw [hk9]
        exact str_cut _ _ _ (by rw [List.length_take]; omega)
      have hx2 : (⟨(ds.take m).toArray⟩ : ByteArray).extract 0 k = ⟨(ds.take (m - 9)).toArray⟩ := by
        rw [hk9, str_head, List.take_take, Nat.min_eq_left (by omega)]
      have HX1 := Lib.hid hx1
      have HX2 := Lib.hid hx2
      clear hx1 hx2
      have HK9 := Lib.hid hk9
      clear hk9
      have hlc : ((ds.take m).drop (m - 9)).length = min m 9 := by rw [List.length_drop, List.length_take]; omega
      have hcd : AllDig ((ds.take m).drop (m - 9)) := (hd.take m).drop _
      have hcl := chunk_lt hcd (by omega)
      have hpc := parse_dig hcd (by intro e; rw [e] at hlc; simp at hlc; omega) (by omega)
      have hst := open_step hm h0 hmn HV.out
      generalize gc : dval ((ds.take m).drop (m - 9)) = c at hcl hpc hst
      have HST := Lib.hid hst
      have HPC := Lib.hid hpc
      clear hst hpc HV gc
      go_wp2_with (first | (go_at_call 62; rw [HX1.out]; refine Hid.out ?_))
      refine Lib.hid ?_
      refine (Tryz.strconv_ParseUint_10_at64_ok _ (by rw [str_size]; omega) c (by simpa using HPC.out) _).mono ?_
      rintro e w' ⟨rfl, hw⟩
      have hb : Below wr.heap.size wr w' := by
        rcases hw with rfl | rfl
        · exact Below.refl _ _
        · exact bytesWorld_below _ _ _
      clear hw
      have hsz1 := hnx.size
      have hown1 := hown.kept (grownBy_of_below hb) (.inr (by simp [Value.ownBlock]))
      have hnx1 := hnx.trans (hb.mono (by omega))
      have hsz2 := hb.size
      go_wp2_with fail
      have hown1D : ((w'.alloc (.cells #[.int .u64 (c : Int)] 56)).drew).ownsRow (w.heap.size + 1) 56 1 (.slice (some ⟨gp, 0, none⟩) ps.length cp) ps.length (ps.map (Value.int .u64)) := (hown1.alloc _ : (w'.alloc (.cells #[.int .u64 (c : Int)] 56)).ownsRow _ _ _ _ _ _)
      have hnewD : ∀ j u, [Value.int .u64 (c : Int)][j]? = some u → ((w'.alloc (.cells #[.int .u64 (c : Int)] 56)).drew).cell? ((⟨w'.heap.size, 0, none⟩ : Addr).add j) = some u := by
        intro t u ht
        match t, ht with
        | 0, ht => simp at ht; subst ht; simp [Addr.add]
      have hszD : w.heap.size + 1 ≤ ((w'.alloc (.cells #[.int .u64 (c : Int)] 56)).drew).heap.size := by simp; omega
      go_region_law ((refine step_append_lies _ rfl (.tmp 33) (.tmp 35) 49 rfl (w.heap.size + 1) 56 i0 (.int .u64 0) 1 8 Tryz.underlying49 hi hz0 hz1 hz2 rfl (by decide) (.slice (some ⟨gp, 0, none⟩) ps.length cp) ps.length (ps.map (Value.int .u64)) (by simp [Act.eval]) hown1D ⟨w'.heap.size, 0, none⟩ 1 1 [.int .u64 (c : Int)] (by simp [Act.eval, Act.put]) rfl hnewD (by intro u hu; simp at hu; subst hu; rfl) (by decide) (by unfold maxLen; omega) (by omega) hszD _ rfl ?_); intro g2 c2 w2 hown2 hgrow2 hg2 hg2l)
      have hs3 := hgrow2.size
      have hs4 : (w'.alloc (.cells #[.int .u64 (c : Int)] 56)).drew.heap.size = w'.heap.size + 1 := by simp
      have hnx2 : Below (w.heap.size + 1) W0 w2 := (hnx1.alloc (by omega) (.cells #[.int .u64 (c : Int)] 56)).drew.grown hgrow2 (by simp; omega) (fun j e => (hown1.lt j e).1)
      go_simp
      go_wp2_with fail
      go_roundw
      case rel => exact ⟨k, ps ++ [(c : Int)], g2, c2, by omega, by rw [HX2.out, HK9.out], by simp, by simpa using hown2, Lib.hid (HP.out.snoc ⟨by omega, by omega⟩), by intro hk0; rw [HK9.out]; have := HK9.out; simp; omega, by have := HK9.out; simp; omega, Lib.hid (by rw [HK9.out]; simpa using HST.out), hnx2⟩
      case measure => rw [HX2.out, strSize_mk, strSize_mk, List.length_take, List.length_take]; omega
    · obtain rfl : m = 0 := by omega
      have hx : pv 1000000000 ps = dval ds := by have := HV.out; simpa [dval_nil] using this
      obtain ⟨A, cA, e1, hcA, hrd, hpl, hAB, hAn⟩ := Rd.of_own_any hown (by omega)
      obtain ⟨rfl, rfl⟩ : some ⟨gp, 0, none⟩ = A ∧ cp = cA := by cases e1; exact ⟨rfl, rfl⟩
      have k0 : wr.cell? ⟨w.heap.size, 0, none⟩ = some (.bool false) := by rw [hnx.cell (p := ⟨w.heap.size, 0, none⟩) (Nat.lt_succ_self _), hW0]; simp
      have k1 : wr.cell? ⟨w.heap.size, 1, none⟩ = some (.slice none 0 0) := by rw [hnx.cell (p := ⟨w.heap.size, 1, none⟩) (Nat.lt_succ_self _), hW0]; simp
      have f0 : wr.frozen? ⟨w.heap.size, 0, none⟩ = false := by rw [hnx.frozen (p := ⟨w.heap.size, 0, none⟩) (Nat.lt_succ_self _), hW0]; simp
      have f1 : wr.frozen? ⟨w.heap.size, 1, none⟩ = false := by rw [hnx.frozen (p := ⟨w.heap.size, 1, none⟩) (Nat.lt_succ_self _), hW0]; simp
      have HM := Lib.hid (MgN.trimmed (B := w.heap.size + 1) (cap := cp) (x := dval ds) hrd HP.out hcA hx hAB hAn)
      have hnxw : Below w.heap.size w wr := by
        have h1 : Below w.heap.size w W0 := by rw [hW0]; exact (Below.refl _ _).alloc (Nat.le_refl _) _
        exact h1.trans (hnx.mono (Nat.le_succ _))
      clear hx HV hown hcap hmn e1 hAB hAn
      go_wp2_with fail
      refine (trim_det _ ps.length cp ps _ hrd rfl hcA).mono ?_
      rintro e w' ⟨rfl, rfl⟩
      go_wp2_with fail
      have hn0 : ∀ (x : World) (k : Nat) (u : Value), Below (w.heap.size) x (x.setCell ⟨w.heap.size, k, none⟩ u) := fun x k u => (Below.refl _ _).setCell (p := ⟨w.heap.size, k, none⟩) (Nat.le_refl _) u
      have HM2 := Lib.hid (show MgN w.heap.size ((w'.setCell ⟨w.heap.size, 0, none⟩ (.bool neg)).setCell ⟨w.heap.size, 1, none⟩ (.slice (some ⟨gp, 0, none⟩) (trimN ps) cp)) (.slice (some ⟨gp, 0, none⟩) (trimN ps) cp) (dval ds) from
        (HM.out.kept (by simp) fun b' h1 h2 => by
          rw [Below.heap_setCell _ _ _ _ (by show b' ≠ w.heap.size; omega), Below.heap_setCell _ _ _ _ (by show b' ≠ w.heap.size; omega)]).mono (Nat.le_succ _))
      have HB2 := Lib.hid ((hnxw.trans (hn0 w' 0 (.bool neg))).trans (hn0 _ 1 (.slice (some ⟨gp, 0, none⟩) (trimN ps) cp)))
      refine bodyPost_ret (v := .agg #[.bool neg, .slice (some ⟨gp, 0, none⟩) (trimN ps) cp]) (by simp [results, Tryz.results36, go_sem, k0, k1]) rfl ⟨_, rfl, HM2.out, HB2.out⟩
end Go.Proofs.YtpjknkembghjcaaGreatDoor

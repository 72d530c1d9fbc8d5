/- integer.minus: the difference of magnitudes. -/
import Derived.Test.YtpjknkembghjcaaGreatDoorTrim
namespace Go.Proofs.YtpjknkembghjcaaGreatDoor
open Go.RowKit Mag

theorem info_u64 : (Tryz.prog.info? 56).map (fun i => (i.zero, i.size, i.bytes)) = some (some (.int .u64 0), 1, 8) := by kernel_rfl

/-- An owned row of whole numbers reads as such. -/
theorem Rd.of_owns {w : World} {base : Nat} {e : TypeId} {k : IntKind} {g n cap : Nat} {os : List Int} (h : w.ownsRow base e 1 (.slice (some ⟨g, 0, none⟩) n cap) n (os.map (Value.int k)))
    (hn : os.length = n) (hb : n ≤ 1000000000000) : Rd w k (some ⟨g, 0, none⟩) os := by
  refine ⟨by omega, fun h0 => ⟨g, 0, rfl, ?_, fun j hj => ?_⟩⟩
  · exact (h.lt g (by simp [Value.ownBlock])).2
  · have := h.cellAt j (by omega)
    rw [Nat.zero_add, this, List.getElem?_map, List.getD_eq_getElem?_getD, List.getElem?_eq_getElem hj]; rfl

set_option maxHeartbeats 1000000 in
theorem minus_any (A A' : Option Addr) (ca cb : Nat) (xs ys : List Int) (w : World) (hx : Rd w .u64 A xs) (hy : Rd w .u64 A' ys)
    (px : Pcs 1000000000 xs) (py : Pcs 1000000000 ys) (hle : pv 1000000000 ys ≤ pv 1000000000 xs) (ty : Trm ys) :
    Calls Tryz.prog 39 #[.slice A xs.length ca, .slice A' ys.length cb] w fun e w' => ∃ u, e = .returned u ∧ MgN w.heap.size w' u (pv 1000000000 xs - pv 1000000000 ys) ∧ Below w.heap.size w w' := by
  have hlx := hx.1
  have hly := hy.1
  have HLE := Lib.hid hle
  clear hle
  obtain ⟨i0, hi, hz0, hz1, hz2⟩ := info_parts info_u64
  go_enter Tryz.func39, Tryz.ntmps39
  go_wp2_with (at_make; refine wpList_make_own _ rfl _ _ 49 rfl w.heap.size 56 i0 (.int .u64 0) 1 Tryz.underlying49 hi hz0 hz1 _ _ _ xs.length rfl rfl rfl (by rw [hz2]; omega) (by unfold maxLen; omega) (Nat.le_refl _) ?_; intro w1 hown1 hgrow1)
  have hnx1 : Below w.heap.size w w1 := (Below.refl _ _).grown hgrow1 (Nat.le_refl _) (fun k e => by cases e)
  go_loopw [5, 6, 15] (fun out br i wr => ∃ (k : Nat) (os : List Int) (b : Int), k ≤ xs.length ∧ out = .slice (some ⟨w.heap.size, 0, none⟩) k xs.length ∧ br = .int .u64 b ∧ i = .int .i64 k ∧ 0 ≤ b ∧ b ≤ 1 ∧
      wr.ownsRow w.heap.size 56 1 (.slice (some ⟨w.heap.size, 0, none⟩) k xs.length) k (os.map (Value.int .u64)) ∧ Hid (os.length = k) ∧ Hid (Pcs 1000000000 os) ∧
      Hid (pv 1000000000 os = pv 1000000000 (xs.take k) - pv 1000000000 (ys.take k) + b * 1000000000 ^ k) ∧ Below w.heap.size w wr) (fun _ _ i _ => xs.length - (intOf i).toNat)
  case atStart => exact ⟨0, [], 0, Nat.zero_le _, rfl, rfl, rfl, by omega, by omega, hown1, Lib.hid rfl, Lib.hid Pcs.nil, Lib.hid (by simp [pv]), hnx1⟩
  case round =>
    obtain ⟨k, os, br, hk, rfl, rfl, rfl, hb0, hb1, hown, HL, HP, HV, hnx⟩ := hrel
    by_cases hlt : k < xs.length
    · obtain ⟨b, off, rfl, hbw, hc⟩ := hx.2 (by omega)
      have c1 := (hnx.cell (p := ⟨b, off + k, none⟩) hbw).trans (hc k hlt)
      have x1 := px.at (by omega) k
      clear hc
      generalize gx : xs.getD k 0 = x at c1 x1
      have GX := Lib.hid gx
      clear gx
      obtain ⟨x0, x1⟩ := x1
      have hs := hnx.size
      by_cases hky : k < ys.length
      · obtain ⟨b', off', rfl, hbw', hc'⟩ := hy.2 (by omega)
        have c2 := (hnx.cell (p := ⟨b', off' + k, none⟩) hbw').trans (hc' k hky)
        have y1 := py.at (by omega) k
        clear hc'
        generalize gy : ys.getD k 0 = y at c2 y1
        have GY := Lib.hid gy
        clear gy
        obtain ⟨y0, y1⟩ := y1
        by_cases hxy : x < br + y
        · go_wp2_with (at_builtin; refine wpList_append_fits _ rfl _ _ 49 rfl w.heap.size 56 i0 1 Tryz.underlying49 hi hz1 w.heap.size k xs.length _ rfl (hown.alloc _) ⟨wr.heap.size, 0, none⟩ 1 1 [.int .u64 (x + 1000000000 - (br + y))] rfl rfl (by intro t u ht; match t, ht with | 0, ht => simp at ht; subst ht; simp [Addr.add]) (by intro u hu; simp at hu; subst hu; rfl) (by omega) ?_; intro w2 hown2 hgrow2)
          go_roundw
          case rel => exact ⟨k + 1, os ++ [x + 1000000000 - (br + y)], 1, by omega, rfl, rfl, by go_num, by omega, by omega, by simpa using hown2, Lib.hid (by simp [HL.out]), Lib.hid (HP.out.snoc ⟨by omega, by omega⟩), Lib.hid (minus_step HL.out HV.out (by rw [GX.out, GY.out]; omega)), (hnx.alloc hs _).grown hgrow2 (by simp; omega) (fun j e => by cases e; exact Nat.le_refl _)⟩
          case measure => simp [intOf]; omega
        · go_wp2_with (at_builtin; refine wpList_append_fits _ rfl _ _ 49 rfl w.heap.size 56 i0 1 Tryz.underlying49 hi hz1 w.heap.size k xs.length _ rfl (hown.alloc _) ⟨wr.heap.size, 0, none⟩ 1 1 [.int .u64 (x - (br + y))] rfl rfl (by intro t u ht; match t, ht with | 0, ht => simp at ht; subst ht; simp [Addr.add]) (by intro u hu; simp at hu; subst hu; rfl) (by omega) ?_; intro w2 hown2 hgrow2)
          go_roundw
          case rel => exact ⟨k + 1, os ++ [x - (br + y)], 0, by omega, rfl, rfl, by go_num, by omega, by omega, by simpa using hown2, Lib.hid (by simp [HL.out]), Lib.hid (HP.out.snoc ⟨by omega, by omega⟩), Lib.hid (minus_step HL.out HV.out (by rw [GX.out, GY.out]; omega)), (hnx.alloc hs _).grown hgrow2 (by simp; omega) (fun j e => by cases e; exact Nat.le_refl _)⟩
          case measure => simp [intOf]; omega
      · by_cases hxy : x < br
        · go_wp2_with (at_builtin; refine wpList_append_fits _ rfl _ _ 49 rfl w.heap.size 56 i0 1 Tryz.underlying49 hi hz1 w.heap.size k xs.length _ rfl (hown.alloc _) ⟨wr.heap.size, 0, none⟩ 1 1 [.int .u64 (x + 1000000000 - br)] rfl rfl (by intro t u ht; match t, ht with | 0, ht => simp at ht; subst ht; simp [Addr.add]) (by intro u hu; simp at hu; subst hu; rfl) (by omega) ?_; intro w2 hown2 hgrow2)
          go_roundw
          case rel => exact ⟨k + 1, os ++ [x + 1000000000 - br], 1, by omega, rfl, rfl, by go_num, by omega, by omega, by simpa using hown2, Lib.hid (by simp [HL.out]), Lib.hid (HP.out.snoc ⟨by omega, by omega⟩), Lib.hid (minus_step HL.out HV.out (by rw [GX.out, getD_out (by omega)]; omega)), (hnx.alloc hs _).grown hgrow2 (by simp; omega) (fun j e => by cases e; exact Nat.le_refl _)⟩
          case measure => simp [intOf]; omega
        · go_wp2_with (at_builtin; refine wpList_append_fits _ rfl _ _ 49 rfl w.heap.size 56 i0 1 Tryz.underlying49 hi hz1 w.heap.size k xs.length _ rfl (hown.alloc _) ⟨wr.heap.size, 0, none⟩ 1 1 [.int .u64 (x - br)] rfl rfl (by intro t u ht; match t, ht with | 0, ht => simp at ht; subst ht; simp [Addr.add]) (by intro u hu; simp at hu; subst hu; rfl) (by omega) ?_; intro w2 hown2 hgrow2)
          go_roundw
          case rel => exact ⟨k + 1, os ++ [x - br], 0, by omega, rfl, rfl, by go_num, by omega, by omega, by simpa using hown2, Lib.hid (by simp [HL.out]), Lib.hid (HP.out.snoc ⟨by omega, by omega⟩), Lib.hid (minus_step HL.out HV.out (by rw [GX.out, getD_out (by omega)]; omega)), (hnx.alloc hs _).grown hgrow2 (by simp; omega) (fun j e => by cases e; exact Nat.le_refl _)⟩
          case measure => simp [intOf]; omega
    · obtain rfl : k = xs.length := by omega
      have hs := hnx.size
      have HV2 := Lib.hid (minus_end (by omega) HP.out HL.out (by have := HV.out; rwa [List.take_length, show ys.take xs.length = ys from List.take_of_length_le (Trm.len_le_of (by omega) px py ty HLE.out)] at this) HLE.out hb0)
      clear HV
      have hrd := Rd.of_owns hown HL.out (by omega)
      go_wp2_with fail
      refine (trim_n _ _ _ os _ hrd HL.out (Nat.le_refl _)).mono ?_
      rintro e w' ⟨⟨m, hm, rfl, htr, hpv⟩, rfl⟩
      have HT := Lib.hid (MgN.of_trim (B := w.heap.size) (cap := xs.length) hrd HP.out hm (by have := HL.out; omega) htr (hpv _) HV2.out (Nat.le_refl _))
      clear htr hpv hm
      go_wp2
      go_ret
      exact ⟨_, rfl, HT.out, hnx⟩

theorem minus_mg (v v' : Value) (x y : Int) (w : World) (hx : Mg w v x) (hy : Mg w v' y) (hle : y ≤ x) :
    Calls Tryz.prog 39 #[v, v'] w fun e w' => ∃ u, e = .returned u ∧ MgN w.heap.size w' u (x - y) ∧ Below w.heap.size w w' := by
  obtain ⟨a, n, c, xs, rfl, rfl, hc, hr, hp, ht, rfl⟩ := hx
  obtain ⟨a', n', c', ys, rfl, rfl, hc', hr', hp', ht', rfl⟩ := hy
  exact minus_any a a' c c' xs ys w hr hr' hp hp' hle ht'

end Go.Proofs.YtpjknkembghjcaaGreatDoor

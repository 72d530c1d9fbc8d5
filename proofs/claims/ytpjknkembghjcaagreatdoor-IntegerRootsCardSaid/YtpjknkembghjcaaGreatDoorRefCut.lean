/- The reference's cut; magnitudes in pieces of four digits. -/
import Derived.Test.YtpjknkembghjcaaGreatDoorAppend
import Derived.Test.YtpjknkembghjcaaGreatDoorOpen
set_option linter.unusedVariables false
set_option linter.unusedSimpArgs false
namespace Go.Proofs.YtpjknkembghjcaaGreatDoor
open Go.RowKit Mag

theorem info_i64 : (Tryz.prog.info? 3).map (fun i => (i.zero, i.size, i.bytes)) = some (some (.int .i64 0), 1, 8) := by kernel_rfl

/-- The slice value v is the magnitude x, in pieces of four digits. -/
def MgI (w : World) (v : Value) (x : Int) : Prop :=
  ∃ a n c xs, v = .slice a n c ∧ xs.length = n ∧ n ≤ c ∧ Rd w .i64 a xs ∧ Pcs 10000 xs ∧ Trm xs ∧ pv 10000 xs = x ∧ (a = none → c = 0)
theorem MgI.below {w w1 : World} {v : Value} {x : Int} (h : MgI w v x) (hb : Below w.heap.size w w1) : MgI w1 v x := by
  obtain ⟨a, m, c, xs, h1, h2, h3, h4, h5, h6, h7, h8⟩ := h
  exact ⟨a, m, c, xs, h1, h2, h3, h4.below (Nat.le_refl _) hb, h5, h6, h7, h8⟩
theorem MgI.trimmed {w : World} {a : Option Addr} {cap : Nat} {os : List Int} {x : Int} (hr : Rd w .i64 a os) (hp : Pcs 10000 os) (hc : os.length ≤ cap) (hx : pv 10000 os = x) (hn : a = none → cap = 0) :
    MgI w (.slice a (trimN os) cap) x :=
  ⟨a, trimN os, cap, os.take (trimN os), rfl, by rw [List.length_take, Nat.min_eq_left (trimN_le _)], Nat.le_trans (trimN_le _) hc, hr.take _, hp.take _,
    trm_take (trimN_le _) (trimN_last _), by rw [pv_take_zeros _ _ _ (trimN_le _) (trimN_zeros _), hx], hn⟩

set_option maxHeartbeats 400000 in
theorem cut_at (b off cap : Nat) (xs : List Int) (w : World) (hlen : xs.length ≤ 1000000000000) (hcap : xs.length ≤ cap)
    (hc : ∀ j, j < xs.length → w.cell? ⟨b, off + j, none⟩ = some (.int .i64 (xs.getD j 0))) :
    Calls Tryz.prog 70 #[.slice (some ⟨b, off, none⟩) xs.length cap] w fun e w' => e = .returned (.slice (some ⟨b, off, none⟩) (trimN xs) cap) ∧ w' = w := by
  go_enter Tryz.func70, Tryz.ntmps70
  go_wp2
  go_loop [0] (fun p => ∃ m : Nat, m ≤ xs.length ∧ p = .slice (some ⟨b, off, none⟩) m cap ∧ (∀ j, m ≤ j → xs.getD j 0 = 0))
    (fun p => match p with | .slice _ n _ => n | _ => 0)
  case atStart => exact ⟨xs.length, Nat.le_refl _, rfl, fun j hj => getD_out hj⟩
  case round =>
    obtain ⟨m, hm, rfl, hv⟩ := hrel
    have HV := Lib.hid hv
    clear hv
    by_cases h0 : 0 < m
    · have hcell := hc (m - 1) (by omega)
      generalize gx : xs.getD (m - 1) 0 = x at hcell
      have GX := Lib.hid gx
      clear gx
      by_cases hx : x = 0
      · have h1 : (x == 0) = true := by simp [hx]
        have HX := Lib.hid hx
        clear hx
        go_wp2
        go_round
        case rel => exact ⟨m - 1, by omega, rfl, fun j hj => by
          by_cases e : j = m - 1
          · rw [e, GX.out, HX.out]
          · exact HV.out j (by omega)⟩
        case measure => simp; omega
      · have h1 : (x == 0) = false := by simp [hx]
        have HM := Lib.hid (trimN_eq hm (fun _ => by rw [GX.out]; exact hx) HV.out)
        go_wp2
        go_ret
        exact ⟨by rw [← HM.out]; rfl, rfl⟩
    · obtain rfl : m = 0 := by omega
      have HM := Lib.hid (trimN_eq (Nat.zero_le _) (fun h => absurd h (by omega)) HV.out)
      go_wp2
      go_ret
      exact ⟨by rw [← HM.out]; rfl, rfl⟩

/-- cut, whatever the slice. -/
theorem cut_det (A : Option Addr) (n cap : Nat) (xs : List Int) (w : World) (h : Rd w .i64 A xs) (hn : xs.length = n) (hcap : n ≤ cap) :
    Calls Tryz.prog 70 #[.slice A n cap] w fun e w' => e = .returned (.slice A (trimN xs) cap) ∧ w' = w := by
  subst hn
  by_cases h0 : 0 < xs.length
  · obtain ⟨b, off, rfl, _, hc⟩ := h.2 h0
    exact cut_at b off cap xs w h.1 hcap hc
  · obtain rfl : xs = [] := List.length_eq_zero_iff.1 (by omega)
    simp only [List.length_nil]
    go_enter Tryz.func70, Tryz.ntmps70
    go_wp2
    refine wp_loop_rounds 1 ?_
    rw [rounds_succ]
    go_wp2
    go_ret
    exact ⟨rfl, rfl⟩

end Go.Proofs.YtpjknkembghjcaaGreatDoor

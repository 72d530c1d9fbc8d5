/- integer.trim: it leaves out zero pieces at the end. -/
import Derived.Test.YtpjknkembghjcaaGreatDoorBase
namespace Go.Proofs.YtpjknkembghjcaaGreatDoor
open Go.RowKit Mag

set_option maxHeartbeats 400000 in
theorem trim_at (b off cap : Nat) (xs : List Int) (w : World) (hlen : xs.length ≤ 1000000000000) (hcap : xs.length ≤ cap)
    (hc : ∀ j, j < xs.length → w.cell? ⟨b, off + j, none⟩ = some (.int .u64 (xs.getD j 0))) :
    Calls Tryz.prog 63 #[.slice (some ⟨b, off, none⟩) xs.length cap] w fun e w' => e = .returned (.slice (some ⟨b, off, none⟩) (trimN xs) cap) ∧ w' = w := by
  go_enter Tryz.func63, Tryz.ntmps63
  go_wp2
  go_loop [0] (fun p => ∃ m : Nat, m ≤ xs.length ∧ p = .slice (some ⟨b, off, none⟩) m cap ∧ (∀ j, m ≤ j → xs.getD j 0 = 0))
    (fun p => match p with | .slice _ n _ => n | _ => 0)
  case atStart => exact ⟨xs.length, Nat.le_refl _, rfl, fun j hj => getD_out hj⟩
  case round =>
    obtain ⟨m, hm, rfl, hv⟩ := hrel
    have HV := Lib.hid hv
    clear hv
    by_cases h0 : 0 < m
    · have hcell := hc (m - 1) (by omega)
      generalize gx : xs.getD (m - 1) 0 = x at hcell
      have GX := Lib.hid gx
      clear gx
      by_cases hx : x = 0
      · have h1 : (x == 0) = true := by simp [hx]
        have HX := Lib.hid hx
        clear hx
        go_wp2
        go_round
        case rel => exact ⟨m - 1, by omega, rfl, fun j hj => by
          by_cases e : j = m - 1
          · rw [e, GX.out, HX.out]
          · exact HV.out j (by omega)⟩
        case measure => simp; omega
      · have h1 : (x == 0) = false := by simp [hx]
        have HM := Lib.hid (trimN_eq hm (fun _ => by rw [GX.out]; exact hx) HV.out)
        go_wp2
        go_ret
        exact ⟨by rw [← HM.out]; rfl, rfl⟩
    · obtain rfl : m = 0 := by omega
      have HM := Lib.hid (trimN_eq (Nat.zero_le _) (fun h => absurd h (by omega)) HV.out)
      go_wp2
      go_ret
      exact ⟨by rw [← HM.out]; rfl, rfl⟩

/-- trim, whatever the slice. -/
theorem trim_det (A : Option Addr) (n cap : Nat) (xs : List Int) (w : World) (h : Rd w .u64 A xs) (hn : xs.length = n) (hcap : n ≤ cap) :
    Calls Tryz.prog 63 #[.slice A n cap] w fun e w' => e = .returned (.slice A (trimN xs) cap) ∧ w' = w := by
  subst hn
  by_cases h0 : 0 < xs.length
  · obtain ⟨b, off, rfl, _, hc⟩ := h.2 h0
    exact trim_at b off cap xs w h.1 hcap hc
  · obtain rfl : xs = [] := List.length_eq_zero_iff.1 (by omega)
    simp only [List.length_nil]
    go_enter Tryz.func63, Tryz.ntmps63
    go_wp2
    refine wp_loop_rounds 1 ?_
    rw [rounds_succ]
    go_wp2
    go_ret
    exact ⟨rfl, rfl⟩

theorem trim_n (A : Option Addr) (n cap : Nat) (xs : List Int) (w : World) (h : Rd w .u64 A xs) (hn : xs.length = n) (hcap : n ≤ cap) :
    Calls Tryz.prog 63 #[.slice A n cap] w fun e w' => (∃ m, m ≤ xs.length ∧ e = .returned (.slice A m cap) ∧ Trm (xs.take m) ∧ ∀ B, pv B (xs.take m) = pv B xs) ∧ w' = w := by
  refine (trim_det A n cap xs w h hn hcap).mono ?_
  rintro e w' ⟨rfl, rfl⟩
  exact ⟨⟨trimN xs, trimN_le _, rfl, trm_take (trimN_le _) (trimN_last _), fun B => pv_take_zeros B xs _ (trimN_le _) (trimN_zeros _)⟩, rfl⟩

/-- What trim hands back is a magnitude. -/
theorem Mg.trimmed {w : World} {a : Option Addr} {cap : Nat} {os : List Int} {x : Int} (hr : Rd w .u64 a os) (hp : Pcs 1000000000 os) (hc : os.length ≤ cap) (hx : pv 1000000000 os = x) : Mg w (.slice a (trimN os) cap) x :=
  Mg.of_trim hr hp (trimN_le _) hc (trm_take (trimN_le _) (trimN_last _)) (pv_take_zeros _ _ _ (trimN_le _) (trimN_zeros _)) hx

end Go.Proofs.YtpjknkembghjcaaGreatDoor

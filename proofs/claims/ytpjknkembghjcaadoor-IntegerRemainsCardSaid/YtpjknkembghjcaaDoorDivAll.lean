/- integer.divide for all magnitudes. -/
import Derived.Test.YtpjknkembghjcaaDoorDivMod
import Derived.Test.YtpjknkembghjcaaDoorDivide3
set_option linter.unusedVariables false
namespace Go.Proofs.YtpjknkembghjcaaDoor
open Go.RowKit Go.Lib Go.Proofs.YtpjknkembghjcaaDoor.Dec Go.Proofs.YtpjknkembghjcaaDoor.Mag Go.Proofs.YtpjknkembghjcaaDoor.Chunk

theorem divAt_all {x y : Int} (bx : x < 1000000000 ^ 900000) (p0 : 0 < y) : DivAt x y := by
  intro v v' w hx hy
  have hx0 := hx.nonneg
  by_cases hlt : x < y
  · exact divAt_less hx0 hlt v v' w hx hy
  · by_cases h9 : y < 1000000000
    · exact divAt_piece (lim_of_pow (by decide) bx) p0 h9 v v' w hx hy
    · obtain ⟨a, n, c, xs, rfl, rfl, hc, hr, hp, ht, rfl⟩ := hx
      obtain ⟨a', n', c', ys, rfl, rfl, hc', hr', hp', ht', rfl⟩ := hy
      have hl2 : 2 ≤ ys.length := by
        rcases Nat.lt_or_ge ys.length 2 with h | h
        · have h1 := pv_lt (show (0 : Int) < 1000000000 by decide) hp'
          have h2 : (1000000000 : Int) ^ ys.length ≤ 1000000000 ^ 1 := pow_mono (by decide) (by omega)
          have h3 : (1000000000 : Int) ^ 1 = 1000000000 := by decide
          omega
        · exact h
      exact divide_long_at a a' c c' xs ys w hr hr' (ht.len_le (by decide) hp bx) (ht'.len_le (by decide) hp' (Int.lt_of_le_of_lt (Int.not_lt.1 hlt) bx)) hp hp' ht ht' hc hc' hl2 (Int.not_lt.1 hlt)

end Go.Proofs.YtpjknkembghjcaaDoor

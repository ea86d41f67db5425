/- The walks of sum.of, abs, wide.times. -/
import Derived.Test.YtiancppdcfahaaaDoorSpecWide
namespace Go.Proofs.YtiancppdcfahaaaDoor
open Go.RowKit

/-- A number of four words as the value that it is. -/
def wideV (N : Nat) : Value := .agg #[.int .u64 (wd N 0 : Int), .int .u64 (wd N 1 : Int), .int .u64 (wd N 2 : Int), .int .u64 (wd N 3 : Int)]
theorem wideV_val4 {a b c d : Nat} (ha : a < W64) (hb : b < W64) (hc : c < W64) (hd : d < W64) : wideV (val4 a b c d) = .agg #[.int .u64 (a : Int), .int .u64 (b : Int), .int .u64 (c : Int), .int .u64 (d : Int)] := by
  obtain ⟨h0, h1, h2, h3⟩ := wd_val4 ha hb hc hd
  unfold wideV; rw [h0, h1, h2, h3]

/-- A number as so many words and what is over. -/
theorem split64 (n : Nat) : ∃ q r : Nat, n = q * W64 + r ∧ r < W64 := ⟨n / W64, n % W64, by unfold W64; omega, Nat.mod_lt _ (by decide)⟩
theorem mul_hi {a n hi lo : Nat} (ha : a < W64) (hn : n < W64) (h : a * n = hi * W64 + lo) : hi + 2 ≤ W64 := by
  have h1 : a * n ≤ (W64 - 1) * (W64 - 1) := Nat.mul_le_mul (by omega) (by omega)
  have h2 : (W64 - 1) * (W64 - 1) = (W64 - 2) * W64 + 1 := by decide
  have h3 : hi * W64 < (W64 - 1) * W64 := by
    have h4 : (W64 - 1) * W64 = (W64 - 2) * W64 + W64 := by decide
    have h5 : W64 = 18446744073709551616 := rfl
    omega
  have := Nat.lt_of_mul_lt_mul_right h3
  have h5 : W64 = 18446744073709551616 := rfl
  omega
theorem carry_le {x y k s : Nat} (hx : x < W64) (hy : y < W64) (h : x + y + 0 = k * W64 + s) : k ≤ 1 := by unfold W64 at *; omega

end Go.Proofs.YtiancppdcfahaaaDoor

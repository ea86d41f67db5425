/- Plain arithmetic of numbers of four words. -/
import Derived.Test.YtiancppdcfahaaaDoorBits
namespace Go.Proofs.YtiancppdcfahaaaDoor

/-- The number of four words, the lowest first. -/
def val4 (a b c d : Nat) : Nat := a + b * 18446744073709551616 + c * 340282366920938463463374607431768211456 + d * 6277101735386680763835789423207666416102355444464034512896
/-- Word i of a number. -/
def wd (N i : Nat) : Nat := N / 18446744073709551616 ^ i % 18446744073709551616
/-- More than every number of four words. -/
def W256 : Nat := 115792089237316195423570985008687907853269984665640564039457584007913129639936

theorem wd_lt (N i : Nat) : wd N i < W64 := Nat.mod_lt _ (by decide)
theorem wd0 (N : Nat) : wd N 0 = N % 18446744073709551616 := by unfold wd; rw [Nat.pow_zero, Nat.div_one]
theorem wd1 (N : Nat) : wd N 1 = N / 18446744073709551616 % 18446744073709551616 := by unfold wd; rw [Nat.pow_one]
theorem wd2 (N : Nat) : wd N 2 = N / 340282366920938463463374607431768211456 % 18446744073709551616 := by
  unfold wd; rw [show (18446744073709551616 : Nat) ^ 2 = 340282366920938463463374607431768211456 from by decide]
theorem wd3 (N : Nat) : wd N 3 = N / 6277101735386680763835789423207666416102355444464034512896 % 18446744073709551616 := by
  unfold wd; rw [show (18446744073709551616 : Nat) ^ 3 = 6277101735386680763835789423207666416102355444464034512896 from by decide]
theorem val4_wd (N : Nat) (h : N < W256) : val4 (wd N 0) (wd N 1) (wd N 2) (wd N 3) = N := by
  rw [wd0, wd1, wd2, wd3]; unfold val4 W256 at *; omega
theorem wd_val4 {a b c d : Nat} (ha : a < W64) (hb : b < W64) (hc : c < W64) (hd : d < W64) :
    wd (val4 a b c d) 0 = a ∧ wd (val4 a b c d) 1 = b ∧ wd (val4 a b c d) 2 = c ∧ wd (val4 a b c d) 3 = d := by
  rw [wd0, wd1, wd2, wd3]; unfold val4 W64 at *
  refine ⟨?_, ?_, ?_, ?_⟩ <;> omega
theorem val4_lt {a b c d : Nat} (ha : a < W64) (hb : b < W64) (hc : c < W64) (hd : d < W64) : val4 a b c d < W256 := by
  unfold val4 W64 W256 at *; omega

theorem expand4 (a b c d n X Y Z : Nat) : (a + b * X + c * Y + d * Z) * n = a * n + b * n * X + c * n * Y + d * n * Z := by
  rw [Nat.add_mul, Nat.add_mul, Nat.add_mul, Nat.mul_right_comm b, Nat.mul_right_comm c, Nat.mul_right_comm d]
/-- A product by a word, word by word. -/
theorem times_arith {a b c d n a1 a0 b1 b0 c1 c0 d1 d0 s0 s1 s2 s3 k0 k1 k2 k3 : Nat}
    (ha : a * n = a1 * W64 + a0) (hb : b * n = b1 * W64 + b0) (hc : c * n = c1 * W64 + c0) (hd : d * n = d1 * W64 + d0)
    (e0 : a0 + 0 + 0 = k0 * W64 + s0) (e1 : b0 + (a1 + k0) + 0 = k1 * W64 + s1) (e2 : c0 + (b1 + k1) + 0 = k2 * W64 + s2) (e3 : d0 + (c1 + k2) + 0 = k3 * W64 + s3) :
    val4 a b c d * n = val4 s0 s1 s2 s3 + (d1 + k3) * W256 := by
  have h : val4 a b c d * n = a * n + b * n * 18446744073709551616 + c * n * 340282366920938463463374607431768211456 + d * n * 6277101735386680763835789423207666416102355444464034512896 := by
    exact expand4 a b c d n _ _ _
  rw [h, ha, hb, hc, hd]
  unfold val4 W64 W256 at *; omega
theorem plus_arith {a b c d x y z t s0 s1 s2 s3 k0 k1 k2 k3 : Nat} (e0 : a + x + 0 = k0 * W64 + s0) (e1 : b + y + k0 = k1 * W64 + s1) (e2 : c + z + k1 = k2 * W64 + s2) (e3 : d + t + k2 = k3 * W64 + s3) :
    val4 a b c d + val4 x y z t = val4 s0 s1 s2 s3 + k3 * W256 := by
  unfold val4 W64 W256 at *; omega
theorem minus_arith {a b c d x y z t s0 s1 s2 s3 k0 k1 k2 k3 : Nat} (e0 : a + k0 * W64 = s0 + x + 0) (e1 : b + k1 * W64 = s1 + y + k0) (e2 : c + k2 * W64 = s2 + z + k1) (e3 : d + k3 * W64 = s3 + t + k2) :
    val4 a b c d + k3 * W256 = val4 s0 s1 s2 s3 + val4 x y z t := by
  unfold val4 W64 W256 at *; omega
theorem tenth_arith {a b c d q0 q1 q2 q3 r0 r1 r2 r3 : Nat} (e3 : d = q3 * 10 + r3) (e2 : r3 * W64 + c = q2 * 10 + r2) (e1 : r2 * W64 + b = q1 * 10 + r1) (e0 : r1 * W64 + a = q0 * 10 + r0) :
    val4 a b c d = val4 q0 q1 q2 q3 * 10 + r0 := by
  unfold val4 W64 at *; omega
end Go.Proofs.YtiancppdcfahaaaDoor

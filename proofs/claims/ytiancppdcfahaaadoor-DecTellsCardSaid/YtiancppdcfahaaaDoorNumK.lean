/- The walk of sum.Over. -/
import Derived.Test.YtiancppdcfahaaaDoorNumJ
namespace Go.Proofs.YtiancppdcfahaaaDoor
open Go.RowKit

/-- Two decimals in memory and the room of the answer; what was there stands. -/
def Tri (w : World) (m1 s1 m2 s2 : Int) (W : World) : Prop := Ext w W ∧ DecIn w.heap.size m1 s1 W ∧ DecIn (w.heap.size + 1) m2 s2 W ∧ DecIn (w.heap.size + 2) 0 0 W
theorem Tri.setWide {w : World} {m1 s1 m2 s2 : Int} {W : World} (h : Tri w m1 s1 m2 s2 W) {b : Nat} (hb : w.heap.size + 2 < b) (N : Nat) : Tri w m1 s1 m2 s2 (setWide W b N) :=
  ⟨ext_setWide h.1 (by omega) N, (heap_setWide _ _ _ _ (by omega)).trans h.2.1, (heap_setWide _ _ _ _ (by omega)).trans h.2.2.1, (heap_setWide _ _ _ _ (by omega)).trans h.2.2.2⟩
theorem Tri.ext {w : World} {m1 s1 m2 s2 : Int} {W W' : World} (h : Tri w m1 s1 m2 s2 W) (x : Ext W W') : Tri w m1 s1 m2 s2 W' := ⟨h.1.trans x, h.2.1.ext x, h.2.2.1.ext x, h.2.2.2.ext x⟩

/-- The number behind the quotient, and its digits behind the point, as Over reckons them. -/
def ovP (T k2 k5 : Nat) : Nat := T * 2 ^ (max k2 k5 - k2) * 5 ^ (max k2 k5 - k5)
def ovS (k2 k5 : Nat) (s1 s2 : Int) : Int := (max k2 k5 : Nat) + (s1 - s2)
def ovN (T k2 k5 : Nat) (s1 s2 : Int) : Nat := if ovS k2 k5 s1 s2 < 0 then ovP T k2 k5 * 10 ^ (-ovS k2 k5 s1 s2).toNat else ovP T k2 k5
def ovE (m1 m2 s1 s2 : Int) (m k2 k5 : Nat) : Ending :=
  if m = 1 then .returned (.tuple #[decV (decMv (decide (m1 < 0) != decide (m2 < 0)) (ovN (m1.natAbs / Nat.gcd m1.natAbs m2.natAbs) k2 k5 s1 s2) (ovS k2 k5 s1 s2).toNat) (decSv (ovN (m1.natAbs / Nat.gcd m1.natAbs m2.natAbs) k2 k5 s1 s2) (ovS k2 k5 s1 s2).toNat), .bool (decOk (ovN (m1.natAbs / Nat.gcd m1.natAbs m2.natAbs) k2 k5 s1 s2) (ovS k2 k5 s1 s2).toNat)])
  else .returned (.tuple #[decV 0 0, .bool false])

theorem mul_pow_lt {T B k C : Nat} (b : Nat) (hb : 0 < b) (hT : T < B) (hk : k ≤ C) : T * b ^ k < B * b ^ C :=
  Nat.lt_of_le_of_lt (Nat.mul_le_mul_left T (Nat.pow_le_pow_right hb hk)) (Nat.mul_lt_mul_of_pos_right hT (Nat.pow_pos hb))
theorem ovP_lt {T k2 k5 : Nat} (hT : T < 9223372036854775808) (h2 : k2 < 64) (h5 : k5 < 64) : T * 2 ^ (max k2 k5 - k2) < 9223372036854775808 * 9223372036854775808 ∧ ovP T k2 k5 < 1000000000000000000000000000000000000000000000000000000000000000000 := by
  have hA := mul_pow_lt (T := T) 2 (by decide) hT (show max k2 k5 - k2 ≤ 63 by omega)
  have e1 : (9223372036854775808 : Nat) * 2 ^ 63 = 9223372036854775808 * 9223372036854775808 := by decide
  have e2 : (9223372036854775808 : Nat) * 5 ^ 63 < 1000000000000000000000000000000000000000000000000000000000000000000 := by decide
  refine ⟨by omega, ?_⟩
  unfold ovP
  by_cases h : k2 ≤ k5
  · rw [show max k2 k5 - k5 = 0 from by omega, Nat.pow_zero, Nat.mul_one]
    omega
  · rw [show max k2 k5 - k2 = 0 from by omega, Nat.pow_zero, Nat.mul_one]
    have hB := mul_pow_lt (T := T) 5 (by decide) hT (show max k2 k5 - k5 ≤ 63 by omega)
    omega
theorem ovP_lt2 {T k2 k5 d : Nat} (hT : T < 9223372036854775808) (h2 : max k2 k5 ≤ 18) (hd : d ≤ 18) : ovP T k2 k5 * 10 ^ d < W256 := by
  have hA := mul_pow_lt (T := T) 2 (by decide) hT (show max k2 k5 - k2 ≤ 18 by omega)
  have hB := mul_pow_lt 5 (by decide) hA (show max k2 k5 - k5 ≤ 18 by omega)
  have hC := mul_pow_lt 10 (by decide) hB hd
  have e1 : (9223372036854775808 : Nat) * 2 ^ 18 * 5 ^ 18 * 10 ^ 18 < W256 := by decide
  unfold ovP
  omega

end Go.Proofs.YtiancppdcfahaaaDoor

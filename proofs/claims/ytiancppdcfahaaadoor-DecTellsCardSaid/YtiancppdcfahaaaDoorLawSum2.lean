/- The plain law: what Add, Times, Scaled, Compare, Over reckon, as numbers over a power of ten. -/
import Derived.Test.YtiancppdcfahaaaDoorLawSum
namespace Go.Proofs.YtiancppdcfahaaaDoor
open Go.RowKit

/-- The sign of a number. -/
def sg (z : Int) : Int := if z < 0 then -1 else if 0 < z then 1 else 0
theorem pow_pos10 (k : Nat) : (0 : Int) < 10 ^ k := Int.pow_pos (by omega)
theorem natAbs_mul10 (m : Int) (k : Nat) : (m * 10 ^ k).natAbs = m.natAbs * 10 ^ k := by rw [Int.natAbs_mul, Int.natAbs_pow]; rfl
theorem neg_mul10 (m : Int) (k : Nat) : decide (m * 10 ^ k < 0) = decide (m < 0) := by
  have hp := pow_pos10 k
  apply decide_eq_decide.2
  constructor
  · intro h
    by_cases h0 : 0 ≤ m
    · exact absurd (Int.mul_nonneg h0 (Int.le_of_lt hp)) (by omega)
    · omega
  · intro h; exact Int.mul_neg_of_neg_of_pos h hp
theorem sg_mul10 (z : Int) (k : Nat) : sg (z * 10 ^ k) = sg z := by
  have hp := pow_pos10 k
  unfold sg
  by_cases h : z < 0
  · rw [if_pos h, if_pos (Int.mul_neg_of_neg_of_pos h hp)]
  · by_cases h0 : 0 < z
    · have := Int.mul_pos h0 hp
      rw [if_neg h, if_pos h0, if_neg (by omega), if_pos this]
    · obtain rfl : z = 0 := by omega
      rw [Int.zero_mul]
theorem scN_abs (M S s : Int) : scN M S s = (M * 10 ^ (s - S).toNat).natAbs := by rw [natAbs_mul10]; rfl

theorem nplus_int (a b : Int) : nplusN (decide (a < 0)) a.natAbs (decide (b < 0)) b.natAbs = (a + b).natAbs ∧ (a + b ≠ 0 → nplusS (decide (a < 0)) a.natAbs (decide (b < 0)) b.natAbs = decide (a + b < 0)) := by
  have tf : ¬(true = false) := by decide
  have ft : ¬(false = true) := by decide
  unfold nplusN nplusS
  by_cases ha : a < 0 <;> by_cases hb : b < 0
  · rw [decide_eq_true ha, decide_eq_true hb, if_pos rfl, if_pos rfl]
    exact ⟨by omega, fun _ => (decide_eq_true (by omega)).symm⟩
  · rw [decide_eq_true ha, decide_eq_false hb, if_neg tf, if_neg tf]
    by_cases h : b.natAbs ≤ a.natAbs
    · rw [if_pos h, if_pos h]; exact ⟨by omega, fun h0 => (decide_eq_true (by omega)).symm⟩
    · rw [if_neg h, if_neg h]; exact ⟨by omega, fun h0 => (decide_eq_false (by omega)).symm⟩
  · rw [decide_eq_false ha, decide_eq_true hb, if_neg ft, if_neg ft]
    by_cases h : b.natAbs ≤ a.natAbs
    · rw [if_pos h, if_pos h]; exact ⟨by omega, fun h0 => (decide_eq_false (by omega)).symm⟩
    · rw [if_neg h, if_neg h]; exact ⟨by omega, fun h0 => (decide_eq_true (by omega)).symm⟩
  · rw [decide_eq_false ha, decide_eq_false hb, if_pos rfl, if_pos rfl]
    exact ⟨by omega, fun _ => (decide_eq_false (by omega)).symm⟩
theorem ncmp_int (a b : Int) : ncmp (decide (a < 0)) a.natAbs (decide (b < 0)) b.natAbs = sg (a - b) := by
  unfold ncmp sg cmpN
  by_cases ha : a < 0 <;> by_cases hb : b < 0
  · rw [decide_eq_true ha, decide_eq_true hb, if_pos rfl, if_pos rfl]
    by_cases h : b.natAbs < a.natAbs
    · rw [if_pos h, if_pos (by omega)]
    · rw [if_neg h]
      by_cases h2 : b.natAbs > a.natAbs
      · rw [if_pos h2, if_neg (by omega), if_pos (by omega)]
      · rw [if_neg h2, if_neg (by omega), if_neg (by omega)]
  · rw [decide_eq_true ha, decide_eq_false hb, if_pos rfl, if_neg (by decide), if_pos (by omega)]
  · rw [decide_eq_false ha, decide_eq_true hb, if_neg (by decide), if_pos rfl, if_neg (by omega), if_pos (by omega)]
  · rw [decide_eq_false ha, decide_eq_false hb, if_neg (by decide), if_neg (by decide)]
    by_cases h : a.natAbs < b.natAbs
    · rw [if_pos h, if_pos (by omega)]
    · rw [if_neg h]
      by_cases h2 : a.natAbs > b.natAbs
      · rw [if_pos h2, if_neg (by omega), if_pos (by omega)]
      · rw [if_neg h2, if_neg (by omega), if_neg (by omega)]

/-- A number with s digits behind the point, and with 18. -/
theorem to18 (m S : Int) (s : Nat) (h0 : S ≤ s) (h1 : S ≤ 18) : m * 10 ^ ((s : Int) - S).toNat * 10 ^ 18 = v18 m S * 10 ^ s := by
  unfold v18
  rw [Int.mul_assoc, ← Int.pow_add, Int.mul_assoc, ← Int.pow_add]
  congr 2; omega
theorem add_is (m1 s1 m2 s2 : Int) (h1 : 0 ≤ s1 ∧ s1 ≤ 18) (h2 : 0 ≤ s2 ∧ s2 ≤ 18) : ((addM m1 s1 m2 s2, addS m1 s1 m2 s2), addOk m1 s1 m2 s2) = canZ (v18 m1 s1 + v18 m2 s2) 18 := by
  obtain ⟨s, hs⟩ : ∃ s : Nat, max s1 s2 = (s : Int) := ⟨(max s1 s2).toNat, by omega⟩
  have e : canZ (v18 m1 s1 + v18 m2 s2) 18 = canZ (m1 * 10 ^ ((s : Int) - s1).toNat + m2 * 10 ^ ((s : Int) - s2).toNat) s := by
    apply canZ_eq
    rw [Int.add_mul, Int.add_mul, ← to18 m1 s1 s (by omega) h1.2, ← to18 m2 s2 s (by omega) h2.2]
  rw [e]
  have hn : addN m1 s1 m2 s2 = (m1 * 10 ^ ((s : Int) - s1).toNat + m2 * 10 ^ ((s : Int) - s2).toNat).natAbs := by
    unfold addN
    rw [hs, scN_abs, scN_abs, ← neg_mul10 m1 ((s : Int) - s1).toNat, ← neg_mul10 m2 ((s : Int) - s2).toNat]
    exact (nplus_int _ _).1
  have hb : m1 * 10 ^ ((s : Int) - s1).toNat + m2 * 10 ^ ((s : Int) - s2).toNat ≠ 0 → addB m1 s1 m2 s2 = decide (m1 * 10 ^ ((s : Int) - s1).toNat + m2 * 10 ^ ((s : Int) - s2).toNat < 0) := by
    unfold addB
    rw [hs, scN_abs, scN_abs, ← neg_mul10 m1 ((s : Int) - s1).toNat, ← neg_mul10 m2 ((s : Int) - s2).toNat]
    exact (nplus_int _ _).2
  unfold addM addS addOk
  rw [hn, hs, Int.toNat_natCast]
  unfold canZ
  rw [canZ_neg _ _ _ hb]
theorem mul_is (m1 s1 m2 s2 : Int) (g1 : goodB m1 s1 = true) (g2 : goodB m2 s2 = true) : ((mulM m1 s1 m2 s2, mulS m1 s1 m2 s2), mulOk m1 s1 m2 s2) = canZ (m1 * m2) (s1 + s2).toNat := by
  unfold mulM mulS mulOk canZ
  rw [g1, g2, Bool.and_self, if_pos rfl, if_pos rfl, Bool.true_and, Bool.true_and, ← Int.natAbs_mul]
  rw [canZ_neg (decide (m1 < 0) != decide (m2 < 0)) (m1 * m2)]
  intro h0
  have n1 : m1 ≠ 0 := fun h => h0 (by rw [h, Int.zero_mul])
  have n2 : m2 ≠ 0 := fun h => h0 (by rw [h, Int.mul_zero])
  by_cases ha : m1 < 0 <;> by_cases hb : m2 < 0
  · rw [decide_eq_true ha, decide_eq_true hb, decide_eq_false (by have := Int.mul_pos_of_neg_of_neg ha hb; omega)]; rfl
  · rw [decide_eq_true ha, decide_eq_false hb, decide_eq_true (Int.mul_neg_of_neg_of_pos ha (by omega))]; rfl
  · rw [decide_eq_false ha, decide_eq_true hb, decide_eq_true (Int.mul_neg_of_pos_of_neg (by omega) hb)]; rfl
  · rw [decide_eq_false ha, decide_eq_false hb, decide_eq_false (by have := Int.mul_pos (show 0 < m1 by omega) (show 0 < m2 by omega); omega)]; rfl
theorem cmp_is (m1 s1 m2 s2 : Int) (h1 : 0 ≤ s1 ∧ s1 ≤ 18) (h2 : 0 ≤ s2 ∧ s2 ≤ 18) : cmpD m1 s1 m2 s2 = sg (v18 m1 s1 - v18 m2 s2) := by
  obtain ⟨s, hs⟩ : ∃ s : Nat, max s1 s2 = (s : Int) := ⟨(max s1 s2).toNat, by omega⟩
  unfold cmpD
  rw [hs, scN_abs, scN_abs, ← neg_mul10 m1 ((s : Int) - s1).toNat, ← neg_mul10 m2 ((s : Int) - s2).toNat, ncmp_int]
  rw [← sg_mul10 _ 18, ← sg_mul10 (v18 m1 s1 - v18 m2 s2) s, Int.sub_mul, Int.sub_mul, to18 m1 s1 s (by omega) h1.2, to18 m2 s2 s (by omega) h2.2]

theorem v18_zero (s : Int) : v18 0 s = 0 := by unfold v18; rw [Int.zero_mul]
theorem zero_left {M S : Int} (g : goodB M S = true) (hM : I64 M) : addOk 0 0 M S = true ∧ addM 0 0 M S = M ∧ addS 0 0 M S = S := by
  obtain ⟨a1, a2, _⟩ := good_range g
  have h := add_is 0 0 M S (by omega) ⟨a1, a2⟩
  rw [v18_zero, Int.zero_add, canZ_v18 g hM] at h
  simp only [Prod.mk.injEq] at h
  exact ⟨h.2, h.1.1, h.1.2⟩
/-- The sum of two decimals that may be. -/
theorem sum_two {m1 s1 m2 s2 : Int} (g1 : goodB m1 s1 = true) (g2 : goodB m2 s2 = true) (i1 : I64 m1) : sumL 0 0 [(m1, s1), (m2, s2)] = canZ (v18 m1 s1 + v18 m2 s2) 18 := by
  obtain ⟨a1, a2, _⟩ := good_range g1
  obtain ⟨b1, b2, _⟩ := good_range g2
  obtain ⟨h1, h2, h3⟩ := zero_left g1 i1
  have h := add_is m1 s1 m2 s2 ⟨a1, a2⟩ ⟨b1, b2⟩
  rw [sumL_cons]
  simp only []
  rw [if_pos g1, if_pos h1, h2, h3, sumL_cons]
  simp only []
  rw [if_pos g2, ← h]
  by_cases ok : addOk m1 s1 m2 s2 = true
  · rw [if_pos ok, ok]; rfl
  · have ok' : addOk m1 s1 m2 s2 = false := by simpa using ok
    have h4 : (canZ (v18 m1 s1 + v18 m2 s2) 18).2 = false := by rw [← h]; exact ok'
    have h5 := canZ_bad h4
    rw [← h] at h5
    rw [if_neg ok]
    simp only [] at h5
    rw [h5, ok']

theorem cM_good {M S : Int} (g : goodB M S = true) : cM M S = M ∧ cS M S = S := by unfold cM cS; rw [if_pos g, if_pos g]; exact ⟨rfl, rfl⟩
theorem neg_good {M S : Int} (g : goodB M S = true) (hM : I64 M) : goodB (-M) S = true ∧ I64 (-M) := by
  obtain ⟨⟨h1, h2⟩, h3⟩ := good_of g
  obtain ⟨_, _, h4⟩ := good_range g
  unfold I64 at *
  exact ⟨good_mk h1 h2 (by omega) (by rw [Int.natAbs_neg]; exact h3), by omega⟩
theorem v18_neg (M S : Int) : v18 (-M) S = -v18 M S := by unfold v18; rw [Int.neg_mul]
theorem good_zero : goodB 0 0 = true := by decide
theorem good_one : goodB 1 0 = true := by decide
theorem canZ_zero (s : Nat) : canZ 0 s = ((0, 0), true) := by
  have h : canZ 0 0 = ((0, 0), true) := by decide
  rw [← h]; apply canZ_eq; omega

theorem decOk0 (N : Nat) : decOk N 0 = decide (N ≤ 9223372036854775807) := by unfold decOk; simp [strip]
theorem canZ2 (z : Int) (s : Nat) : (canZ z s).2 = decOk z.natAbs s := rfl
/-- A decimal told with so many digits. -/
theorem sc_is {M S : Int} (g : goodB M S = true) (s : Int) (h0 : S ≤ s) (h1 : s ≤ 18) : scM M S s = (canZ (M * 10 ^ (s - S).toNat) 0).1.1 ∧ scOk M S s = (canZ (M * 10 ^ (s - S).toNat) 0).2 := by
  have hi : scIn M S s = true := by unfold scIn; rw [g, decide_eq_true h0, decide_eq_true h1]; rfl
  unfold scM scOk canZ
  rw [hi, if_pos rfl, Bool.true_and, scN_abs, ← neg_mul10 M (s - S).toNat]
  exact ⟨rfl, rfl⟩
theorem sc_out {M S s : Int} (h : s < S ∨ 18 < s) : scM M S s = 0 ∧ scOk M S s = false := by
  have hi : scIn M S s = false := by unfold scIn; simp; intro _ _; omega
  unfold scM scOk
  rw [hi]; exact ⟨rfl, rfl⟩
theorem sc_val {M S : Int} (g : goodB M S = true) (s : Int) (h0 : S ≤ s) (h1 : s ≤ 18) (h : scOk M S s = true) : scM M S s = M * 10 ^ (s - S).toNat := by
  obtain ⟨e1, e2⟩ := sc_is g s h0 h1
  rw [e2] at h
  obtain ⟨h3, _, _⟩ := canZ_val h
  rw [Nat.zero_sub, Int.pow_zero, Int.mul_one] at h3
  rw [e1, h3]
/-- Told with so many digits, it is that decimal again. -/
theorem sc_back {M S : Int} (g : goodB M S = true) (hM : I64 M) (s : Nat) (h0 : S ≤ s) (h1 : (s : Int) ≤ 18) (h : scOk M S s = true) : canZ (scM M S s) s = ((M, S), true) := by
  obtain ⟨a1, a2, _⟩ := good_range g
  rw [sc_val g s h0 h1 h, ← canZ_good g hM]
  apply canZ_eq
  rw [Int.mul_assoc, ← Int.pow_add]
  congr 2; omega
/-- Where there is a number of one digit more there is one. -/
theorem sc_down {M S : Int} (g : goodB M S = true) (s : Int) (h0 : S ≤ s) (h1 : s + 1 ≤ 18) (h : scOk M S (s + 1) = true) : scOk M S s = true := by
  obtain ⟨_, e2⟩ := sc_is g (s + 1) (by omega) h1
  obtain ⟨_, e3⟩ := sc_is g s h0 (by omega)
  rw [e3, canZ2, decOk0, natAbs_mul10]
  rw [e2, canZ2, decOk0, natAbs_mul10, show (s + 1 - S).toNat = (s - S).toNat + 1 from by omega, Nat.pow_succ, ← Nat.mul_assoc] at h
  simp only [decide_eq_true_eq] at *
  omega
theorem sc_same {M S : Int} (g : goodB M S = true) (hM : I64 M) : scOk M S S = true ∧ scM M S S = M := by
  obtain ⟨a1, a2, a3⟩ := good_range g
  have h : scOk M S S = true := by
    rw [(sc_is g S (by omega) a2).2, Int.sub_self, canZ2, decOk0, show ((0 : Int).toNat) = 0 from rfl, Int.pow_zero, Int.mul_one]
    unfold I64 at hM
    simp only [decide_eq_true_eq]
    omega
  refine ⟨h, ?_⟩
  rw [sc_val g S (by omega) a2 h, Int.sub_self, show ((0 : Int).toNat) = 0 from rfl, Int.pow_zero, Int.mul_one]
end Go.Proofs.YtiancppdcfahaaaDoor

/- What the document's Add, Compare reckon by digits is what the numbers tell: plain. -/
import Derived.Test.YtbkhdjbhijmghaaLawOver
namespace Go.Proofs.Ytbkhdjbhijmghaa
open Go.RowKit

/-- A decimal's number at 18 digits behind the point, without its sign. -/
def absN (M S : Int) : Nat := M.natAbs * 10 ^ (18 - S).toNat
theorem absN_is (M S : Int) : (v18 M S).natAbs = absN M S ∧ (M < 0 ↔ v18 M S < 0) ∧ (0 ≤ M ↔ 0 ≤ v18 M S) := by
  have hp : (0 : Int) < 10 ^ (18 - S).toNat := Int.pow_pos (by omega)
  unfold v18 absN
  refine ⟨?_, ?_, ?_⟩
  · rw [Int.natAbs_mul, Int.natAbs_pow]; rfl
  · constructor
    · intro h; exact Int.mul_neg_of_neg_of_pos h hp
    · intro h
      rcases Int.lt_or_le M 0 with h1 | h1
      · exact h1
      · have := Int.mul_nonneg h1 (Int.le_of_lt hp); omega
  · constructor
    · intro h; exact Int.mul_nonneg h (Int.le_of_lt hp)
    · intro h
      rcases Int.lt_or_le M 0 with h1 | h1
      · have := Int.mul_neg_of_neg_of_pos h1 hp; omega
      · exact h1
/-- The sign and the number of a sum. -/
def raB (M1 S1 M2 S2 : Int) : Bool := if decide (M1 < 0) = decide (M2 < 0) then decide (M1 < 0) else if absN M2 S2 ≤ absN M1 S1 then decide (M1 < 0) else decide (M2 < 0)
def raN (M1 S1 M2 S2 : Int) : Nat := if decide (M1 < 0) = decide (M2 < 0) then absN M1 S1 + absN M2 S2 else if absN M2 S2 ≤ absN M1 S1 then absN M1 S1 - absN M2 S2 else absN M2 S2 - absN M1 S1
theorem radd_is (M1 S1 M2 S2 : Int) : ((decMv (raB M1 S1 M2 S2) (raN M1 S1 M2 S2) 18, decSv (raN M1 S1 M2 S2) 18), decOk (raN M1 S1 M2 S2) 18) = canZ (v18 M1 S1 + v18 M2 S2) 18 := by
  obtain ⟨x1, x2, x3⟩ := absN_is M1 S1
  obtain ⟨y1, y2, y3⟩ := absN_is M2 S2
  have hN : raN M1 S1 M2 S2 = (v18 M1 S1 + v18 M2 S2).natAbs := by
    unfold raN
    by_cases h1 : M1 < 0 <;> by_cases h2 : M2 < 0
    · rw [decide_eq_true h1, decide_eq_true h2, if_pos rfl]; omega
    · rw [decide_eq_true h1, decide_eq_false h2, if_neg (by decide)]; split <;> omega
    · rw [decide_eq_false h1, decide_eq_true h2, if_neg (by decide)]; split <;> omega
    · rw [decide_eq_false h1, decide_eq_false h2, if_pos rfl]; omega
  have hB : v18 M1 S1 + v18 M2 S2 ≠ 0 → raB M1 S1 M2 S2 = decide (v18 M1 S1 + v18 M2 S2 < 0) := by
    intro hz
    unfold raB
    by_cases h1 : M1 < 0 <;> by_cases h2 : M2 < 0
    · rw [decide_eq_true h1, decide_eq_true h2, if_pos rfl, decide_eq_true (by omega)]
    · rw [decide_eq_true h1, decide_eq_false h2, if_neg (by decide)]
      split
      · rw [decide_eq_true (by omega)]
      · rw [decide_eq_false (by omega)]
    · rw [decide_eq_false h1, decide_eq_true h2, if_neg (by decide)]
      split
      · rw [decide_eq_false (by omega)]
      · rw [decide_eq_true (by omega)]
    · rw [decide_eq_false h1, decide_eq_false h2, if_pos rfl, decide_eq_false (by omega)]
  rw [hN, canZ_neg _ _ _ hB]
  rfl
/-- How two decimals compare. -/
def rcV (M1 S1 M2 S2 : Int) : Int := if M1 < 0 ∧ M2 < 0 then cmpN (absN M2 S2) (absN M1 S1) else if M1 < 0 then -1 else if M2 < 0 then 1 else cmpN (absN M1 S1) (absN M2 S2)
theorem rcV_is (M1 S1 M2 S2 : Int) (h1 : 0 ≤ S1 ∧ S1 ≤ 18) (h2 : 0 ≤ S2 ∧ S2 ≤ 18) : cmpD M1 S1 M2 S2 = rcV M1 S1 M2 S2 := by
  rw [cmp_is M1 S1 M2 S2 h1 h2]
  obtain ⟨x1, x2, x3⟩ := absN_is M1 S1
  obtain ⟨y1, y2, y3⟩ := absN_is M2 S2
  unfold rcV sg cmpN
  split <;> split <;> (repeat' split) <;> omega
/-- The document's sum of many. -/
def rAll : Int → Int → List (Int × Int) → (Int × Int) × Bool
  | m, s, [] => ((m, s), true)
  | m, s, d :: l => if goodB d.1 d.2 then (if decOk (raN m s d.1 d.2) 18 then rAll (decMv (raB m s d.1 d.2) (raN m s d.1 d.2) 18) (decSv (raN m s d.1 d.2) 18) l else ((0, 0), false)) else ((0, 0), false)
theorem rAll_is : ∀ (l : List (Int × Int)) (m s : Int), goodB m s = true → rAll m s l = sumL m s l
  | [], m, s, _ => rfl
  | d :: l, m, s, g => by
    unfold rAll
    rw [sumL_cons]
    by_cases gd : goodB d.1 d.2 = true
    · rw [if_pos gd, if_pos gd]
      obtain ⟨a1, a2, _⟩ := good_range g
      obtain ⟨b1, b2, _⟩ := good_range gd
      have e1 := add_is m s d.1 d.2 ⟨a1, a2⟩ ⟨b1, b2⟩
      have e2 := radd_is m s d.1 d.2
      have hg := (canZ_is_good (v18 m s + v18 d.1 d.2) 18).1
      rw [← e1] at e2 hg
      simp only [Prod.mk.injEq] at e2
      obtain ⟨⟨r1, r2⟩, r3⟩ := e2
      rw [r1, r2, r3]
      by_cases ho : addOk m s d.1 d.2 = true
      · rw [if_pos ho, if_pos ho]
        exact rAll_is l _ _ hg
      · rw [if_neg ho, if_neg ho]
    · rw [if_neg gd, if_neg gd]
end Go.Proofs.Ytbkhdjbhijmghaa

/- The plain law of the quotient: sum's Over tells what the long division tells. -/
import Derived.Test.YtbkhdjbhijmghaaLawSum3
namespace Go.Proofs.Ytbkhdjbhijmghaa
open Go.RowKit

theorem dec_same {N Q t u : Nat} (b : Bool) (h : N * 10 ^ u = Q * 10 ^ t) : decMv b N t = decMv b Q u ∧ decSv N t = decSv Q u ∧ decOk N t = decOk Q u := by
  have key : ∀ (s : Int), s = 1 ∨ s = -1 → canZ (s * (N : Int)) t = canZ (s * (Q : Int)) u := by
    intro s _
    refine canZ_eq ?_
    rw [Int.mul_assoc, Int.mul_assoc]
    congr 1
    exact_mod_cast h
  have hn : ∀ (X : Nat), ((1 : Int) * (X : Int)).natAbs = X ∧ ((-1 : Int) * (X : Int)).natAbs = X := fun X => ⟨by omega, by omega⟩
  have k1 := key 1 (.inl rfl)
  have k2 := key (-1) (.inr rfl)
  unfold canZ at k1 k2
  simp only [Prod.mk.injEq] at k1 k2
  rw [(hn N).1, (hn Q).1] at k1
  rw [(hn N).2, (hn Q).2] at k2
  refine ⟨?_, k1.1.2, k1.2⟩
  cases b
  · have := k1.1.1
    rw [decide_eq_false (by omega), decide_eq_false (by omega)] at this
    exact this
  · have e1 := canZ_neg true (-1 * (N : Int)) t (fun h0 => (decide_eq_true (by omega)).symm)
    have e2 := canZ_neg true (-1 * (Q : Int)) u (fun h0 => (decide_eq_true (by omega)).symm)
    rw [(hn N).2] at e1
    rw [(hn Q).2] at e2
    rw [e1, e2]
    exact k2.1.1

/-- What the quotient tells: by the number, and what is left of the division. -/
def ovR (A s1 B s2 : Int) : (Int × Int) × Bool :=
  if A.natAbs * 10 ^ (18 + s2 - s1).toNat % B.natAbs = 0 then ((decMv (decide (A < 0) != decide (B < 0)) (A.natAbs * 10 ^ (18 + s2 - s1).toNat / B.natAbs) 18, decSv (A.natAbs * 10 ^ (18 + s2 - s1).toNat / B.natAbs) 18), decOk (A.natAbs * 10 ^ (18 + s2 - s1).toNat / B.natAbs) 18) else ((0, 0), false)

theorem over_ref {A s1 B s2 : Int} (h1 : 0 ≤ s1 ∧ s1 ≤ 18) (h2 : 0 ≤ s2 ∧ s2 ≤ 18) (hB : B ≠ 0) {m k2 k5 : Nat}
    (hL : B.natAbs / Nat.gcd A.natAbs B.natAbs = m * 5 ^ k5 * 2 ^ k2) (h5 : m % 5 ≠ 0) (hm2 : m % 2 ≠ 0) :
    ovE A B s1 s2 m k2 k5 = .returned (.tuple #[decV (ovR A s1 B s2).1.1 (ovR A s1 B s2).1.2, .bool (ovR A s1 B s2).2]) := by
  have hb : 0 < B.natAbs := by omega
  obtain ⟨E, hE⟩ : ∃ E, (18 + s2 - s1).toNat = E := ⟨_, rfl⟩
  unfold ovR ovE
  rw [hE]
  generalize (decide (A < 0) != decide (B < 0)) = neg at *
  generalize A.natAbs = a at *
  generalize B.natAbs = b at *
  have hg0 : 0 < Nat.gcd a b := Nat.gcd_pos_of_pos_right _ hb
  have d1 : a / Nat.gcd a b * Nat.gcd a b = a := Nat.div_mul_cancel (Nat.gcd_dvd_left _ _)
  have d2 : b / Nat.gcd a b * Nat.gcd a b = b := Nat.div_mul_cancel (Nat.gcd_dvd_right _ _)
  have cop : Nat.Coprime (a / Nat.gcd a b) (b / Nat.gcd a b) := Nat.coprime_div_gcd_div_gcd hg0
  rw [hL] at d2 cop
  generalize a / Nat.gcd a b = T at *
  generalize Nat.gcd a b = g at *
  have hL0 : 0 < m * 5 ^ k5 * 2 ^ k2 := by
    rcases Nat.eq_zero_or_pos (m * 5 ^ k5 * 2 ^ k2) with h | h
    · rw [h, Nat.zero_mul] at d2; omega
    · exact h
  have low := ovP_low T k2 k5
  -- what is left is nothing just when the divisor's part divides
  have hR : a * 10 ^ E % b = 0 ↔ m * 5 ^ k5 * 2 ^ k2 ∣ T * 10 ^ E := by
    rw [← Nat.dvd_iff_mod_eq_zero, ← d1, ← d2, Nat.mul_right_comm T g]
    exact Nat.mul_dvd_mul_iff_right hg0
  by_cases h0 : a * 10 ^ E % b = 0
  · rw [if_pos h0]
    have hdv := hR.1 h0
    have hdv2 : m * 5 ^ k5 * 2 ^ k2 ∣ 10 ^ E := Nat.Coprime.dvd_of_dvd_mul_left cop.symm hdv
    have hm1 : m = 1 := Nat.Coprime.eq_one_of_dvd (coprime10 hm2 h5 E) (Nat.dvd_trans (by rw [Nat.mul_assoc]; exact Nat.dvd_mul_right _ _) hdv2)
    subst hm1
    rw [if_pos rfl]
    obtain ⟨Q, hQ⟩ : ∃ Q, a * 10 ^ E / b = Q := ⟨_, rfl⟩
    have hQb : Q * b = a * 10 ^ E := by rw [← hQ]; exact Nat.div_mul_cancel (Nat.dvd_of_mod_eq_zero h0)
    rw [Nat.one_mul] at d2 hL0
    have hQL : Q * (5 ^ k5 * 2 ^ k2) = T * 10 ^ E := by
      apply Nat.eq_of_mul_eq_mul_right hg0
      rw [Nat.mul_assoc, d2, hQb, ← d1, Nat.mul_right_comm]
    have hPQ : ovP T k2 k5 * 10 ^ E = Q * 10 ^ (max k2 k5) := by
      apply Nat.eq_of_mul_eq_mul_right hL0
      rw [Nat.mul_right_comm, low, Nat.mul_right_comm Q, hQL, Nat.mul_right_comm]
    obtain ⟨hs1, hs2⟩ := over_scale (W := ovP T k2 k5) (a := Q) (p := 18) (q := s2.toNat) (r := s1.toNat) (e := E) (K := max k2 k5) (by omega) hPQ
    have hNt : ovN T k2 k5 s1 s2 * 10 ^ 18 = Q * 10 ^ (ovS k2 k5 s1 s2).toNat := by
      unfold ovN
      by_cases hneg : ovS k2 k5 s1 s2 < 0
      · rw [if_pos hneg, show (ovS k2 k5 s1 s2).toNat = 0 from by omega, Nat.pow_zero, Nat.mul_one]
        unfold ovS at *
        rw [show (-(((max k2 k5 : Nat) : Int) + (s1 - s2))).toNat = s2.toNat - s1.toNat - max k2 k5 from by omega]
        exact hs1 (by omega)
      · rw [if_neg hneg]
        unfold ovS at *
        rw [show (((max k2 k5 : Nat) : Int) + (s1 - s2)).toNat = max k2 k5 + s1.toNat - s2.toNat from by omega]
        exact hs2 (by omega)
    obtain ⟨r1, r2, r3⟩ := dec_same neg hNt
    rw [hQ, r1, r2, r3]
  · rw [if_neg h0]
    by_cases hm1 : m = 1
    · subst hm1
      rw [if_pos rfl]
      rw [Nat.one_mul] at hR hL0
      have hno : ¬ 5 ^ k5 * 2 ^ k2 ∣ T * 10 ^ E := fun h => h0 (hR.2 h)
      have hKE : E < max k2 k5 := by
        rcases Nat.lt_or_ge E (max k2 k5) with h | h
        · exact h
        · exfalso
          apply hno
          refine ⟨ovP T k2 k5 * 10 ^ (E - max k2 k5), ?_⟩
          rw [← Nat.mul_assoc, Nat.mul_comm (5 ^ k5 * 2 ^ k2), low, Nat.mul_assoc, ← Nat.pow_add, show max k2 k5 + (E - max k2 k5) = E from by omega]
      have hS : ¬ ovS k2 k5 s1 s2 < 0 := by unfold ovS; omega
      have hN : ovN T k2 k5 s1 s2 = ovP T k2 k5 := by unfold ovN; rw [if_neg hS]
      have ht : (ovS k2 k5 s1 s2).toNat = max k2 k5 + s1.toNat - s2.toNat := by unfold ovS; omega
      have bad : decOk (ovN T k2 k5 s1 s2) (ovS k2 k5 s1 s2).toNat = false := by
        rw [hN, ht]
        cases hok : decOk (ovP T k2 k5) (max k2 k5 + s1.toNat - s2.toNat) with
        | false => rfl
        | true =>
          exfalso
          obtain ⟨v1, v2, v3⟩ := strip_spec (max k2 k5 + s1.toNat - s2.toNat) (ovP T k2 k5)
          have hle : (strip (ovP T k2 k5) (max k2 k5 + s1.toNat - s2.toNat)).2 ≤ 18 := (of_decide_eq_true hok).1
          generalize (strip (ovP T k2 k5) (max k2 k5 + s1.toNat - s2.toNat)).1 = M at *
          generalize (strip (ovP T k2 k5) (max k2 k5 + s1.toNat - s2.toNat)).2 = S at *
          apply hno
          refine ⟨M * 10 ^ (max k2 k5 + s1.toNat - s2.toNat - S - (max k2 k5 - E)), ?_⟩
          have hp : 0 < (10 : Nat) ^ (max k2 k5 - E) := Nat.pow_pos (by omega)
          apply Nat.eq_of_mul_eq_mul_right hp
          have e : 10 ^ (max k2 k5 + s1.toNat - s2.toNat - S) = 10 ^ (max k2 k5 + s1.toNat - s2.toNat - S - (max k2 k5 - E)) * 10 ^ (max k2 k5 - E) := by
            rw [← Nat.pow_add]
            congr 1
            omega
          rw [Nat.mul_assoc T, ← Nat.pow_add, show E + (max k2 k5 - E) = max k2 k5 from by omega, ← low, v1, e]
          simp only [Nat.mul_assoc, Nat.mul_comm, Nat.mul_left_comm]
      unfold decMv decSv
      rw [bad]
      rfl
    · rw [if_neg hm1]
end Go.Proofs.Ytbkhdjbhijmghaa

/- The plain law of the quotient: a product by one of its factors is the other one. -/
import Derived.Test.YtbkhdjbhijmghaaLawSum2
namespace Go.Proofs.Ytbkhdjbhijmghaa
open Go.RowKit

theorem coprime10 {m : Nat} (h2 : m % 2 ≠ 0) (h5 : m % 5 ≠ 0) (e : Nat) : Nat.Coprime m (10 ^ e) := by
  apply Nat.Coprime.pow_right
  have c2 : Nat.Coprime m 2 := by
    unfold Nat.Coprime
    rw [Nat.gcd_comm, Nat.gcd_rec, show m % 2 = 1 from by omega]; decide
  have c5 : Nat.Coprime m 5 := by
    unfold Nat.Coprime
    rw [Nat.gcd_comm, Nat.gcd_rec]
    have : m % 5 = 1 ∨ m % 5 = 2 ∨ m % 5 = 3 ∨ m % 5 = 4 := by omega
    rcases this with h | h | h | h <;> (rw [h]; decide)
  exact Nat.Coprime.mul_right c2 c5

theorem ovP_low (T k2 k5 : Nat) : ovP T k2 k5 * (5 ^ k5 * 2 ^ k2) = T * 10 ^ (max k2 k5) := by
  unfold ovP
  have e2 : 2 ^ (max k2 k5 - k2) * 2 ^ k2 = 2 ^ max k2 k5 := by rw [← Nat.pow_add]; congr 1; omega
  have e5 : 5 ^ (max k2 k5 - k5) * 5 ^ k5 = 5 ^ max k2 k5 := by rw [← Nat.pow_add]; congr 1; omega
  have e10 : (10 : Nat) ^ max k2 k5 = 2 ^ max k2 k5 * 5 ^ max k2 k5 := by rw [← Nat.mul_pow]
  rw [e10, ← e2, ← e5]
  simp only [Nat.mul_assoc, Nat.mul_left_comm, Nat.mul_comm]

/-- The quotient's number: of the numbers alone. -/
theorem over_nat {a b c g m k2 k5 e : Nat} (hb : 0 < b) (hg : g = Nat.gcd c b) (hc : c * 10 ^ e = a * b) (hL : b / g = m * 5 ^ k5 * 2 ^ k2) (h5 : m % 5 ≠ 0) (h2 : m % 2 ≠ 0) :
    m = 1 ∧ ovP (c / g) k2 k5 * 10 ^ e = a * 10 ^ (max k2 k5) := by
  have hg0 : 0 < g := by rw [hg]; exact Nat.gcd_pos_of_pos_right _ hb
  have d1 : c / g * g = c := Nat.div_mul_cancel (by rw [hg]; exact Nat.gcd_dvd_left _ _)
  have d2 : b / g * g = b := Nat.div_mul_cancel (by rw [hg]; exact Nat.gcd_dvd_right _ _)
  have cop : Nat.Coprime (c / g) (b / g) := by rw [hg]; exact Nat.coprime_div_gcd_div_gcd (by rw [← hg]; exact hg0)
  have hL0 : 0 < b / g := Nat.div_pos (Nat.le_of_dvd hb (by rw [hg]; exact Nat.gcd_dvd_right _ _)) hg0
  have hTL : c / g * 10 ^ e = a * (b / g) := by
    apply Nat.eq_of_mul_eq_mul_right hg0
    rw [Nat.mul_right_comm, d1, hc, Nat.mul_assoc, d2]
  have hdv : b / g ∣ 10 ^ e := Nat.Coprime.dvd_of_dvd_mul_left cop.symm (by rw [hTL]; exact Nat.dvd_mul_left _ _)
  have hm : m ∣ 10 ^ e := Nat.dvd_trans (by rw [hL, Nat.mul_assoc]; exact Nat.dvd_mul_right _ _) hdv
  have hm1 : m = 1 := Nat.Coprime.eq_one_of_dvd (coprime10 h2 h5 e) hm
  refine ⟨hm1, ?_⟩
  rw [hm1, Nat.one_mul] at hL
  apply Nat.eq_of_mul_eq_mul_right hL0
  rw [Nat.mul_right_comm, hL, ovP_low, Nat.mul_right_comm, hTL, hL]
  simp only [Nat.mul_assoc, Nat.mul_left_comm, Nat.mul_comm]

theorem over_scale {W a p q r K e : Nat} (he : e + r = p + q) (h : W * 10 ^ e = a * 10 ^ K) :
    (K + r < q → W * 10 ^ (q - r - K) * 10 ^ p = a) ∧ (q ≤ K + r → W * 10 ^ p = a * 10 ^ (K + r - q)) := by
  have hp : ∀ k, 0 < (10 : Nat) ^ k := fun k => Nat.pow_pos (by omega)
  constructor
  · intro hlt
    apply Nat.eq_of_mul_eq_mul_right (hp K)
    rw [← h, Nat.mul_assoc, Nat.mul_assoc, ← Nat.pow_add, ← Nat.pow_add]
    congr 2; omega
  · intro hle
    by_cases hq : r ≤ q
    · apply Nat.eq_of_mul_eq_mul_right (hp (q - r))
      rw [Nat.mul_assoc, Nat.mul_assoc, ← Nat.pow_add, ← Nat.pow_add, show p + (q - r) = e from by omega, show K + r - q + (q - r) = K from by omega]
      exact h
    · rw [show p = e + (r - q) from by omega, show K + r - q = K + (r - q) from by omega, Nat.pow_add, Nat.pow_add, ← Nat.mul_assoc, h, Nat.mul_assoc]

/-- A product by one of its factors is the other one. -/
theorem over_is {A s1 B s2 : Int} (gA : goodB A s1 = true) (iA : I64 A) (gB : goodB B s2 = true) (hB : B ≠ 0) (ok : (canZ (A * B) (s1 + s2).toNat).2 = true) {m k2 k5 : Nat}
    (hL : B.natAbs / Nat.gcd (canZ (A * B) (s1 + s2).toNat).1.1.natAbs B.natAbs = m * 5 ^ k5 * 2 ^ k2) (h5 : m % 5 ≠ 0) (h2 : m % 2 ≠ 0) :
    ovE (canZ (A * B) (s1 + s2).toNat).1.1 B (canZ (A * B) (s1 + s2).toNat).1.2 s2 m k2 k5 = .returned (.tuple #[decV A s1, .bool true]) := by
  obtain ⟨a1, a2, _⟩ := good_range gA
  obtain ⟨b1, b2, _⟩ := good_range gB
  obtain ⟨v1, v2, v3⟩ := canZ_val ok
  have c0 : 0 ≤ (canZ (A * B) (s1 + s2).toNat).1.2 := (decSv_range _ _).1
  generalize (canZ (A * B) (s1 + s2).toNat).1.1 = C at *
  generalize (canZ (A * B) (s1 + s2).toNat).1.2 = Sc at *
  have hn : C.natAbs * 10 ^ ((s1 + s2).toNat - Sc.toNat) = A.natAbs * B.natAbs := by rw [← natAbs_mul10, v1, Int.natAbs_mul]
  obtain ⟨rfl, hW⟩ := over_nat (by omega) rfl hn hL h5 h2
  unfold ovE
  rw [if_pos rfl]
  generalize C.natAbs / Nat.gcd C.natAbs B.natAbs = T at *
  obtain ⟨hs1, hs2⟩ := over_scale (p := s1.toNat) (q := s2.toNat) (r := Sc.toNat) (by omega) hW
  obtain ⟨N, hN⟩ : ∃ N, N = ovN T k2 k5 Sc s2 := ⟨_, rfl⟩
  obtain ⟨t, ht⟩ : ∃ t, t = (ovS k2 k5 Sc s2).toNat := ⟨_, rfl⟩
  have hNt : N * 10 ^ s1.toNat = A.natAbs * 10 ^ t := by
    rw [hN, ht]
    unfold ovN
    by_cases hneg : ovS k2 k5 Sc s2 < 0
    · rw [if_pos hneg, show (ovS k2 k5 Sc s2).toNat = 0 from by omega, Nat.pow_zero, Nat.mul_one]
      unfold ovS at *
      rw [show (-(((max k2 k5 : Nat) : Int) + (Sc - s2))).toNat = s2.toNat - Sc.toNat - max k2 k5 from by omega]
      exact hs1 (by omega)
    · rw [if_neg hneg]
      unfold ovS at *
      rw [show (((max k2 k5 : Nat) : Int) + (Sc - s2)).toNat = max k2 k5 + Sc.toNat - s2.toNat from by omega]
      exact hs2 (by omega)
  rw [← hN, ← ht]
  obtain ⟨z, hz⟩ : ∃ z : Int, z = if A < 0 then -(N : Int) else (N : Int) := ⟨_, rfl⟩
  have hzN : N = z.natAbs := by rw [hz]; split <;> omega
  have hzA : z * 10 ^ s1.toNat = A * 10 ^ t := by
    have h1 : (N : Int) * 10 ^ s1.toNat = (A.natAbs : Int) * 10 ^ t := by exact_mod_cast hNt
    rw [hz]
    by_cases hA : A < 0
    · rw [if_pos hA, Int.neg_mul, h1, show (A.natAbs : Int) = -A from by omega, Int.neg_mul, Int.neg_neg]
    · rw [if_neg hA, h1, show (A.natAbs : Int) = A from by omega]
  have hcan : canZ z t = ((A, s1), true) := by
    rw [← canZ_good gA iA]
    exact canZ_eq hzA
  have hsign : z ≠ 0 → (decide (C < 0) != decide (B < 0)) = decide (z < 0) := by
    intro hz0
    have hA0 : A ≠ 0 := by
      intro h
      rw [h, Int.zero_mul] at hzA
      rcases Int.mul_eq_zero.1 hzA with h1 | h1
      · exact hz0 h1
      · have := pow_pos10 s1.toNat; omega
    have hC : decide (C < 0) = decide (A * B < 0) := by rw [← v1, neg_mul10]
    have hz1 : decide (z < 0) = decide (A < 0) := by
      apply decide_eq_decide.2
      rw [hz]
      by_cases hA : A < 0
      · rw [if_pos hA]; rw [hz, if_pos hA] at hz0; omega
      · rw [if_neg hA]; omega
    rw [hC, hz1]
    by_cases ha : A < 0 <;> by_cases hb : B < 0
    · rw [decide_eq_true ha, decide_eq_true hb, decide_eq_false (by have := Int.mul_pos_of_neg_of_neg ha hb; omega)]; rfl
    · rw [decide_eq_true ha, decide_eq_false hb, decide_eq_true (Int.mul_neg_of_neg_of_pos ha (by omega))]; rfl
    · rw [decide_eq_false ha, decide_eq_true hb, decide_eq_true (Int.mul_neg_of_pos_of_neg (by omega) hb)]; rfl
    · rw [decide_eq_false ha, decide_eq_false hb, decide_eq_false (by have := Int.mul_pos (show 0 < A by omega) (show 0 < B by omega); omega)]; rfl
  rw [hzN, canZ_neg _ _ _ hsign]
  unfold canZ at hcan
  simp only [Prod.mk.injEq] at hcan
  rw [hcan.1.1, hcan.1.2, hcan.2]
end Go.Proofs.Ytbkhdjbhijmghaa

/- The plain law of the reckoning with decimals: what strip makes of a number hangs on the number alone; sums, products, quotients as numbers over a power of ten. -/
import Derived.Test.YtiancppdcfahaaaDoorRefE
namespace Go.Proofs.YtiancppdcfahaaaDoor
open Go.RowKit

/-- What dec tells of a number with a sign. -/
def canZ (z : Int) (s : Nat) : (Int × Int) × Bool := ((decMv (decide (z < 0)) z.natAbs s, decSv z.natAbs s), decOk z.natAbs s)

theorem strip_up (N s : Nat) : strip (N * 10) (s + 1) = strip N s := by
  rw [strip, if_pos (by omega)]
  congr 1; omega
theorem strip_ups (N s k : Nat) : strip (N * 10 ^ k) (s + k) = strip N s := by
  induction k with
  | zero => rw [Nat.pow_zero, Nat.mul_one, Nat.add_zero]
  | succ k ih => rw [Nat.pow_succ, ← Nat.mul_assoc, ← Nat.add_assoc, strip_up, ih]
theorem canZ_ups (z : Int) (s k : Nat) : canZ (z * 10 ^ k) (s + k) = canZ z s := by
  have h1 : (z * 10 ^ k).natAbs = z.natAbs * 10 ^ k := by rw [Int.natAbs_mul, Int.natAbs_pow]; rfl
  have hp : (0 : Int) < 10 ^ k := Int.pow_pos (by omega)
  have h2 : decide (z * 10 ^ k < 0) = decide (z < 0) := by
    apply decide_eq_decide.2
    constructor
    · intro h
      by_cases h0 : 0 ≤ z
      · exact absurd (Int.mul_nonneg h0 (Int.le_of_lt hp)) (by omega)
      · omega
    · intro h; exact Int.mul_neg_of_neg_of_pos h hp
  unfold canZ decMv decSv decOk
  rw [h1, h2, strip_ups]
theorem canZ_eq {z1 z2 : Int} {s1 s2 : Nat} (h : z1 * 10 ^ s2 = z2 * 10 ^ s1) : canZ z1 s1 = canZ z2 s2 := by
  rw [← canZ_ups z1 s1 s2, h, Nat.add_comm, canZ_ups]
/-- The sign of 0 doesn't count. -/
theorem canZ_neg (n : Bool) (z : Int) (s : Nat) (h : z ≠ 0 → n = decide (z < 0)) : decMv n z.natAbs s = decMv (decide (z < 0)) z.natAbs s := by
  by_cases h0 : z = 0
  · subst h0
    unfold decMv
    rw [show (0 : Int).natAbs = 0 from rfl, strip_zero]
    cases n <;> rfl
  · rw [h h0]
theorem strip_good (N s : Nat) (h : s = 0 ∨ N % 10 ≠ 0) : strip N s = (N, s) := by
  cases s with
  | zero => rfl
  | succ s => rw [strip, if_neg (by omega)]
theorem strip_spec : ∀ (s N : Nat), N = (strip N s).1 * 10 ^ (s - (strip N s).2) ∧ (strip N s).2 ≤ s ∧ ((strip N s).2 = 0 ∨ (strip N s).1 % 10 ≠ 0)
  | 0, N => ⟨by simp [strip], Nat.le_refl _, .inl rfl⟩
  | s + 1, N => by
    rw [strip]
    by_cases h : N % 10 = 0
    · rw [if_pos h]
      obtain ⟨h1, h2, h3⟩ := strip_spec s (N / 10)
      refine ⟨?_, by omega, h3⟩
      rw [show s + 1 - (strip (N / 10) s).2 = (s - (strip (N / 10) s).2) + 1 from by omega, Nat.pow_succ, ← Nat.mul_assoc, ← h1]
      omega
    · rw [if_neg h]
      exact ⟨by simp, Nat.le_refl _, .inr h⟩

theorem good_of {M S : Int} (h : goodB M S = true) : (0 ≤ S ∧ S ≤ 18) ∧ (S = 0 ∨ M.natAbs % 10 ≠ 0) := by
  unfold goodB at h
  simp only [decide_eq_true_eq] at h
  refine ⟨⟨h.1, h.2.1⟩, h.2.2.2.imp_right (fun h1 h2 => h1 ?_)⟩
  have : M.tmod 10 = M.sign * ((M.natAbs % 10 : Nat) : Int) := by
    cases M with
    | ofNat n => cases n <;> simp [Int.tmod, Int.sign] <;> omega
    | negSucc n => simp [Int.tmod, Int.sign, Int.natAbs]
  rw [this, h2]; simp
theorem good_mk {M S : Int} (h0 : 0 ≤ S) (h1 : S ≤ 18) (h2 : -9223372036854775807 ≤ M) (h : S = 0 ∨ M.natAbs % 10 ≠ 0) : goodB M S = true := by
  unfold goodB
  simp only [decide_eq_true_eq]
  refine ⟨h0, h1, by omega, h.imp_right (fun h3 h4 => h3 ?_)⟩
  have : (M.tmod 10).natAbs = M.natAbs % 10 := by rw [Int.natAbs_tmod]; rfl
  rw [h4] at this
  simpa using this.symm

/-- A decimal that may be is what its number tells. -/
theorem canZ_good {M S : Int} (h : goodB M S = true) (hM : I64 M) : canZ M S.toNat = ((M, S), true) := by
  obtain ⟨⟨h1, h2⟩, h3⟩ := good_of h
  obtain ⟨_, _, h4⟩ := good_range h
  unfold I64 at hM
  have hs := strip_good M.natAbs S.toNat (by omega)
  have ok : decOk M.natAbs S.toNat = true := by unfold decOk; rw [hs]; simp only [decide_eq_true_eq]; omega
  unfold canZ decMv decSv
  rw [ok, if_pos rfl, if_pos rfl, hs]
  congr 1
  congr 1
  · by_cases hn : M < 0
    · rw [decide_eq_true hn, if_pos rfl]; simp only []; omega
    · rw [decide_eq_false hn, if_neg (by decide)]; simp only []; omega
  · simp only []; omega
/-- What canZ tells is good, whether there is a number or not. -/
theorem canZ_is_good (z : Int) (s : Nat) : goodB (canZ z s).1.1 (canZ z s).1.2 = true ∧ I64 (canZ z s).1.1 := by
  unfold canZ
  have hm := decMv_range (decide (z < 0)) z.natAbs s
  have hs := decSv_range z.natAbs s
  refine ⟨good_mk hs.1 hs.2 hm.1 ?_, by unfold I64; simp only []; omega⟩
  simp only []
  by_cases ok : decOk z.natAbs s = true
  · unfold decMv decSv
    rw [ok, if_pos rfl, if_pos rfl]
    obtain ⟨_, _, h3⟩ := strip_spec s z.natAbs
    rcases h3 with h3 | h3
    · left; omega
    · right
      by_cases hn : decide (z < 0) = true
      · rw [if_pos hn]; omega
      · rw [if_neg hn]; omega
  · left
    unfold decSv
    rw [if_neg ok]
theorem canZ_bad {z : Int} {s : Nat} (h : (canZ z s).2 = false) : (canZ z s).1 = (0, 0) := by
  unfold canZ at *
  simp only [] at h
  unfold decMv decSv
  rw [h]; rfl
/-- The number that canZ tells is the number. -/
theorem canZ_val {z : Int} {s : Nat} (h : (canZ z s).2 = true) : (canZ z s).1.1 * 10 ^ (s - (canZ z s).1.2.toNat) = z ∧ (canZ z s).1.2.toNat ≤ s ∧ (canZ z s).1.2 ≤ 18 := by
  have hs := decSv_range z.natAbs s
  obtain ⟨h1, h2, _⟩ := strip_spec s z.natAbs
  unfold canZ at *
  simp only [] at h ⊢
  refine ⟨?_, ?_, hs.2⟩
  · unfold decMv decSv
    rw [h, if_pos rfl, if_pos rfl, Int.toNat_natCast]
    generalize strip z.natAbs s = p at *
    by_cases hn : z < 0
    · rw [decide_eq_true hn, if_pos rfl, Int.neg_mul]
      have : ((z.natAbs : Nat) : Int) = (p.1 : Int) * 10 ^ (s - p.2) := by rw [h1]; push_cast; rfl
      omega
    · rw [decide_eq_false hn, if_neg (by decide)]
      have : ((z.natAbs : Nat) : Int) = (p.1 : Int) * 10 ^ (s - p.2) := by rw [h1]; push_cast; rfl
      omega
  · unfold decSv
    rw [h, if_pos rfl, Int.toNat_natCast]; exact h2

/-- The number of a decimal with 18 digits behind the point. -/
def v18 (M S : Int) : Int := M * 10 ^ (18 - S).toNat
theorem canZ_v18 {M S : Int} (h : goodB M S = true) (hM : I64 M) : canZ (v18 M S) 18 = ((M, S), true) := by
  obtain ⟨h1, h2, _⟩ := good_range h
  rw [← canZ_good h hM]
  apply canZ_eq
  unfold v18
  rw [Int.mul_assoc, ← Int.pow_add]
  congr 2; omega
theorem v18_canZ {z : Int} (h : (canZ z 18).2 = true) : v18 (canZ z 18).1.1 (canZ z 18).1.2 = z := by
  obtain ⟨h1, h2, h3⟩ := canZ_val h
  have h4 : 0 ≤ (canZ z 18).1.2 := (decSv_range _ _).1
  unfold v18
  rw [show (18 - (canZ z 18).1.2).toNat = 18 - (canZ z 18).1.2.toNat from by omega]
  exact h1
end Go.Proofs.YtiancppdcfahaaaDoor

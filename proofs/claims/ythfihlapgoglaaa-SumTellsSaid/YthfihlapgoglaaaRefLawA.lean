/- Sums, differences, products of digit lists, from the back: plain. -/
import Derived.Test.YthfihlapgoglaaaRefT
import Derived.Test.YthfihlapgoglaaaDigTrim
namespace Go.Proofs.Ythfihlapgoglaaa
open Go.RowKit

/-- The last k of a list. -/
def lastN (l : List Nat) (k : Nat) : List Nat := l.drop (l.length - k)
theorem lastN_zero (l : List Nat) : lastN l 0 = [] := by unfold lastN; rw [Nat.sub_zero, List.drop_eq_nil_of_le (Nat.le_refl _)]
theorem lastN_all (l : List Nat) (k : Nat) (h : l.length ≤ k) : lastN l k = l := by unfold lastN; rw [show l.length - k = 0 from by omega, List.drop_zero]
theorem lastN_len (l : List Nat) (k : Nat) (h : k ≤ l.length) : (lastN l k).length = k := by unfold lastN; rw [List.length_drop]; omega
theorem lastN_lt {l : List Nat} (h : ∀ d ∈ l, d < 10) (k : Nat) : ∀ d ∈ lastN l k, d < 10 := fun d hd => h d (List.mem_of_mem_drop hd)
theorem lastN_step (l : List Nat) (k : Nat) (h : k < l.length) : valD (lastN l (k + 1)) = l[l.length - (k + 1)]'(by omega) * 10 ^ k + valD (lastN l k) := by
  have e : lastN l (k + 1) = l[l.length - (k + 1)]'(by omega) :: lastN l k := by
    unfold lastN
    rw [List.drop_eq_getElem_cons (by omega), show l.length - (k + 1) + 1 = l.length - k from by omega]
  rw [e, valD_cons, lastN_len l k (by omega)]
theorem lastN_more (l : List Nat) (k : Nat) (h : l.length ≤ k) : valD (lastN l (k + 1)) = valD (lastN l k) := by rw [lastN_all l _ (by omega), lastN_all l _ h]

/-- One step of a sum: the digit that is laid, what is carried. -/
theorem plus_step {D c k x y A B : Nat} (hD : D + c * 10 ^ k = A + B) : (c + x + y) % 10 * 10 ^ k + D + (c + x + y) / 10 * 10 ^ (k + 1) = (x * 10 ^ k + A) + (y * 10 ^ k + B) := by
  have h := Nat.div_add_mod (c + x + y) 10
  have e : (c + x + y) % 10 * 10 ^ k + (c + x + y) / 10 * 10 ^ (k + 1) = (c + x + y) * 10 ^ k := by
    rw [Nat.pow_succ, Nat.mul_comm (10 ^ k) 10, ← Nat.mul_assoc, ← Nat.add_mul]
    congr 1
    omega
  have e2 : (c + x + y) * 10 ^ k = c * 10 ^ k + x * 10 ^ k + y * 10 ^ k := by rw [Nat.add_mul, Nat.add_mul]
  omega
/-- One step of a difference: x the digit above, y the one below, c what was borrowed. -/
theorem minus_step {D c k x y A B : Nat} (hD : D + B = A + c * 10 ^ k) (hx : x < 10) (hy : y < 10) (hc : c ≤ 1) :
    (if x < c + y then x + 10 - (c + y) else x - (c + y)) * 10 ^ k + D + (y * 10 ^ k + B) = x * 10 ^ k + A + (if x < c + y then 1 else 0) * 10 ^ (k + 1) ∧ (if x < c + y then x + 10 - (c + y) else x - (c + y)) < 10 := by
  by_cases h : x < c + y
  · rw [if_pos h, if_pos h]
    refine ⟨?_, by omega⟩
    have e : (x + 10 - (c + y)) * 10 ^ k + (c * 10 ^ k + y * 10 ^ k) = x * 10 ^ k + 10 ^ (k + 1) := by
      rw [← Nat.add_mul, ← Nat.add_mul, show x + 10 - (c + y) + (c + y) = x + 10 from by omega, Nat.add_mul, Nat.pow_succ, Nat.mul_comm 10]
    omega
  · rw [if_neg h, if_neg h]
    refine ⟨?_, by omega⟩
    have e : (x - (c + y)) * 10 ^ k + (c * 10 ^ k + y * 10 ^ k) = x * 10 ^ k := by
      rw [← Nat.add_mul, ← Nat.add_mul, show x - (c + y) + (c + y) = x from by omega]
    omega

/-- The value of counted places. -/
def valI : List Nat → Nat
  | [] => 0
  | d :: l => d * 10 ^ l.length + valI l
theorem valI_set : ∀ (l : List Nat) (j x : Nat) (h : j < l.length), valI (l.set j (l[j] + x)) = valI l + x * 10 ^ (l.length - 1 - j)
  | d :: l, 0, x, _ => by
    simp only [List.set_cons_zero, List.getElem_cons_zero, valI, List.length_cons, Nat.add_mul]
    rw [show l.length + 1 - 1 - 0 = l.length from by omega]
    omega
  | d :: l, j + 1, x, h => by
    have hj : j < l.length := by simpa using h
    simp only [List.set_cons_succ, List.getElem_cons_succ, valI, List.length_cons, List.length_set]
    rw [valI_set l j x hj, show l.length + 1 - 1 - (j + 1) = l.length - 1 - j from by omega]
    omega
theorem valI_zero (n : Nat) : valI (List.replicate n 0) = 0 := by
  induction n with
  | zero => rfl
  | succ n ih => rw [List.replicate_succ, valI, ih]; simp
/-- The carrying of counted places into digits. -/
theorem carry_step {D c k x V : Nat} (hD : D + c * 10 ^ k = V) : (c + x) % 10 * 10 ^ k + D + (c + x) / 10 * 10 ^ (k + 1) = x * 10 ^ k + V := by
  have h := plus_step (x := x) (y := 0) (A := V) (B := 0) (c := c) (k := k) (D := D) (by omega)
  simpa using h
end Go.Proofs.Ythfihlapgoglaaa

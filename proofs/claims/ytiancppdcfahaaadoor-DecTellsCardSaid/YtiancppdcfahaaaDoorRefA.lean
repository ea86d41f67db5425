/- Digits: the plain functions of the document's number lists. No program's text is walked here. -/
import Derived.Test.YtiancppdcfahaaaDoorNumL
namespace Go.Proofs.YtiancppdcfahaaaDoor
open Go.RowKit

/-- The digits of a number, the highest first, none of 0. -/
def digs (N : Nat) : List Nat := if _h : N = 0 then [] else digs (N / 10) ++ [N % 10]
termination_by N
decreasing_by omega
theorem digs_zero : digs 0 = [] := by rw [digs]; simp
theorem digs_pos {N : Nat} (h : 0 < N) : digs N = digs (N / 10) ++ [N % 10] := by rw [digs]; simp; intro h0; omega
/-- The number of a list of digits. -/
def valD : List Nat → Nat := fun l => l.foldl (fun n d => n * 10 + d) 0
theorem valD_append (l m : List Nat) : valD (l ++ m) = m.foldl (fun n d => n * 10 + d) (valD l) := by unfold valD; rw [List.foldl_append]
theorem valD_snoc (l : List Nat) (d : Nat) : valD (l ++ [d]) = valD l * 10 + d := by rw [valD_append]; rfl
theorem valD_digs : ∀ N, valD (digs N) = N := by
  intro N
  induction N using Nat.strongRecOn with
  | ind N ih =>
    by_cases h : N = 0
    · subst h; rw [digs_zero]; rfl
    · rw [digs_pos (by omega), valD_snoc, ih (N / 10) (by omega)]; omega
theorem digs_lt : ∀ N, ∀ d ∈ digs N, d < 10 := by
  intro N
  induction N using Nat.strongRecOn with
  | ind N ih =>
    intro d hd
    by_cases h : N = 0
    · subst h; rw [digs_zero] at hd; cases hd
    · rw [digs_pos (by omega)] at hd
      rcases List.mem_append.1 hd with hd | hd
      · exact ih _ (by omega) d hd
      · rw [List.mem_singleton] at hd; omega
theorem digs_ne {N : Nat} (h : 0 < N) : digs N ≠ [] := by rw [digs_pos h]; simp
theorem digs_head : ∀ N, ∀ d l, digs N = d :: l → d ≠ 0 := by
  intro N
  induction N using Nat.strongRecOn with
  | ind N ih =>
    intro d l hd
    by_cases h : N = 0
    · subst h; rw [digs_zero] at hd; cases hd
    · rw [digs_pos (by omega)] at hd
      by_cases h1 : N / 10 = 0
      · rw [h1, digs_zero] at hd
        injection hd with h2 _
        omega
      · obtain ⟨d', l', h2⟩ : ∃ d' l', digs (N / 10) = d' :: l' := by
          cases he : digs (N / 10) with
          | nil => exact absurd he (digs_ne (by omega))
          | cons a b => exact ⟨a, b, rfl⟩
        rw [h2] at hd
        injection hd with h3 _
        exact h3 ▸ ih (N / 10) (by omega) d' l' h2
theorem digs_length {N k : Nat} (h : N < 10 ^ k) : (digs N).length ≤ k := by
  induction k generalizing N with
  | zero => rw [Nat.pow_zero] at h; obtain rfl : N = 0 := by omega
            rw [digs_zero]; exact Nat.le_refl _
  | succ k ih =>
    by_cases h0 : N = 0
    · subst h0; rw [digs_zero]; exact Nat.zero_le _
    · rw [digs_pos (by omega), List.length_append]
      rw [Nat.pow_succ] at h
      have := ih (N := N / 10) (by omega)
      simp; exact this
theorem digs_low {N : Nat} (h : 0 < N) : 10 ^ ((digs N).length - 1) ≤ N := by
  induction N using Nat.strongRecOn with
  | ind N ih =>
    rw [digs_pos h, List.length_append]
    by_cases h1 : N / 10 = 0
    · rw [h1, digs_zero]; simp; exact h
    · have := ih (N / 10) (by omega) (by omega)
      have hl : 0 < (digs (N / 10)).length := List.length_pos_iff.2 (digs_ne (by omega))
      simp only [List.length_cons, List.length_nil]
      rw [show (digs (N / 10)).length + (0 + 1) - 1 = ((digs (N / 10)).length - 1) + 1 from by omega, Nat.pow_succ]
      omega

/-- How two lists of digits of one length compare, place by place. -/
def cmpEq : List Nat → List Nat → Int
  | a :: l, b :: m => if a < b then -1 else if b < a then 1 else cmpEq l m
  | _, _ => 0
/-- How two lists of digits compare. -/
def cmpDg (a b : List Nat) : Int := if a.length = b.length then cmpEq a b else if a.length < b.length then -1 else 1

theorem foldl_val (n : Nat) (l : List Nat) : l.foldl (fun n d => n * 10 + d) n = n * 10 ^ l.length + valD l := by
  induction l generalizing n with
  | nil => simp [valD]
  | cons d l ih =>
    unfold valD
    rw [List.foldl_cons, ih, List.foldl_cons, ih (0 * 10 + d), List.length_cons, Nat.pow_succ]
    rw [Nat.add_mul, Nat.mul_comm (10 ^ l.length) 10, Nat.mul_assoc, Nat.zero_mul, Nat.zero_add, Nat.add_assoc]
theorem valD_cons (d : Nat) (l : List Nat) : valD (d :: l) = d * 10 ^ l.length + valD l := by
  have := foldl_val d l
  unfold valD at *
  rw [List.foldl_cons, Nat.zero_mul, Nat.zero_add, this]
theorem valD_lt (l : List Nat) (h : ∀ d ∈ l, d < 10) : valD l < 10 ^ l.length := by
  induction l with
  | nil => simp [valD]
  | cons d l ih =>
    rw [valD_cons, List.length_cons, Nat.pow_succ]
    have h1 := ih (fun x hx => h x (List.mem_cons_of_mem _ hx))
    have h2 := h d List.mem_cons_self
    have h3 : d * 10 ^ l.length ≤ 9 * 10 ^ l.length := Nat.mul_le_mul_right _ (by omega)
    omega
theorem cmpEq_val : ∀ (a b : List Nat), a.length = b.length → (∀ d ∈ a, d < 10) → (∀ d ∈ b, d < 10) → cmpEq a b = cmpN (valD a) (valD b)
  | [], [], _, _, _ => by rw [cmpN_eq]; rfl
  | x :: a, y :: b, hl, ha, hb => by
    have hl' : a.length = b.length := by simpa using hl
    have ih := cmpEq_val a b hl' (fun d h => ha d (List.mem_cons_of_mem _ h)) (fun d h => hb d (List.mem_cons_of_mem _ h))
    have h1 := valD_lt a (fun d h => ha d (List.mem_cons_of_mem _ h))
    have h2 := valD_lt b (fun d h => hb d (List.mem_cons_of_mem _ h))
    rw [valD_cons, valD_cons, hl', cmpEq]
    rw [hl'] at h1
    by_cases h3 : x < y
    · rw [if_pos h3]
      have h4 : (x + 1) * 10 ^ b.length ≤ y * 10 ^ b.length := Nat.mul_le_mul_right _ h3
      rw [Nat.add_mul, Nat.one_mul] at h4
      exact (cmpN_lt (by omega)).symm
    · rw [if_neg h3]
      by_cases h4 : y < x
      · rw [if_pos h4]
        have h5 : (y + 1) * 10 ^ b.length ≤ x * 10 ^ b.length := Nat.mul_le_mul_right _ h4
        rw [Nat.add_mul, Nat.one_mul] at h5
        exact (cmpN_gt (by omega)).symm
      · rw [if_neg h4, ih]
        obtain rfl : x = y := by omega
        unfold cmpN
        congr 1
        · simp
        · congr 1
          simp
theorem digs_mono_len {A B : Nat} (h : (digs A).length < (digs B).length) : A < B := by
  have h1 := valD_lt (digs A) (digs_lt A)
  rw [valD_digs] at h1
  have hB : 0 < B := by
    by_cases h0 : B = 0
    · subst h0; rw [digs_zero] at h; simp at h
    · omega
  have h2 := digs_low hB
  have h3 : 10 ^ (digs A).length ≤ 10 ^ ((digs B).length - 1) := Nat.pow_le_pow_right (by omega) (by omega)
  omega
theorem cmpDg_digs (A B : Nat) : cmpDg (digs A) (digs B) = cmpN A B := by
  unfold cmpDg
  by_cases h : (digs A).length = (digs B).length
  · rw [if_pos h, cmpEq_val _ _ h (digs_lt A) (digs_lt B), valD_digs, valD_digs]
  · rw [if_neg h]
    by_cases h1 : (digs A).length < (digs B).length
    · rw [if_pos h1, cmpN_lt (digs_mono_len h1)]
    · rw [if_neg h1, cmpN_gt (digs_mono_len (by omega))]
/-- A list without noughts ahead. -/
def trimD (l : List Nat) : List Nat := l.dropWhile (fun d => d == 0)
theorem trimD_digs (N : Nat) : trimD (digs N) = digs N := by
  unfold trimD
  cases h : digs N with
  | nil => rfl
  | cons d l => rw [List.dropWhile_cons, if_neg (by simpa using digs_head N d l h)]
theorem digs_tenth {N : Nat} (h : 0 < N) : (digs N).take ((digs N).length - 1) = digs (N / 10) := by
  rw [digs_pos h]; simp
theorem digs_last {N : Nat} (h : 0 < N) (i : Nat) (hi : i + 1 = (digs N).length) (hi' : i < (digs N).length) : (digs N)[i] = N % 10 := by
  have h1 := digs_pos h
  have h2 : i = (digs (N / 10)).length := by rw [h1] at hi; simp at hi; exact hi
  simp only [h1, h2]
  simp
end Go.Proofs.YtiancppdcfahaaaDoor

/- Digits without the noughts ahead are those of their number: plain. -/
import Derived.Test.YtiancppdcfahaaaDoorRefE
namespace Go.Proofs.YtiancppdcfahaaaDoor
open Go.RowKit

/-- A list of digits without the noughts ahead is that of its number. -/
theorem digs_snoc {N d : Nat} (h : 0 < N * 10 + d) (hd : d < 10) : digs (N * 10 + d) = digs N ++ [d] := by
  rw [digs_pos h, show (N * 10 + d) / 10 = N from by omega, show (N * 10 + d) % 10 = d from by omega]
theorem digs_val : ∀ (n : Nat) (l : List Nat), l.length = n → (∀ d ∈ l, d < 10) → (∀ d m, l = d :: m → d ≠ 0) → digs (valD l) = l
  | 0, l, hl, _, _ => by
    obtain rfl : l = [] := List.eq_nil_of_length_eq_zero hl
    exact digs_zero
  | n + 1, l, hl, h1, h2 => by
    have hne : l ≠ [] := by intro h; rw [h] at hl; simp at hl
    obtain ⟨k, d, rfl⟩ : ∃ k d, l = k ++ [d] := ⟨l.dropLast, l.getLast hne, (List.dropLast_concat_getLast hne).symm⟩
    rw [valD_snoc]
    have hd : d < 10 := h1 d (by simp)
    cases k with
    | nil =>
      have h0 : d ≠ 0 := h2 d [] rfl
      rw [digs_snoc (by simp [valD]; omega) hd]
      show digs 0 ++ [d] = [] ++ [d]
      rw [digs_zero]
    | cons e m =>
      have h0 : e ≠ 0 := h2 e (m ++ [d]) rfl
      have ih2 := digs_val n (e :: m) (by simp at hl ⊢; exact hl) (fun x hx => h1 x (List.mem_append_left _ hx)) (fun x y hx => by injection hx with hx _; exact hx ▸ h0)
      have hpos : 0 < valD (e :: m) := by
        rw [valD_cons]
        have := Nat.mul_le_mul (show 1 ≤ e by omega) (show 1 ≤ 10 ^ m.length from Nat.pow_pos (by omega))
        omega
      rw [digs_snoc (by omega) hd, ih2]
theorem valD_trimD (l : List Nat) : valD (trimD l) = valD l := by
  induction l with
  | nil => rfl
  | cons d l ih =>
    by_cases h : d = 0
    · subst h; rw [trimD_zero, ih, valD_cons]; simp
    · rw [trimD_pos _ h]
theorem trimD_mem {l : List Nat} {d : Nat} (h : d ∈ trimD l) : d ∈ l := by
  unfold trimD at h
  exact (List.dropWhile_sublist _).mem h
theorem trimD_head {l : List Nat} : ∀ d m, trimD l = d :: m → d ≠ 0 := by
  induction l with
  | nil => intro d m h; cases h
  | cons a l ih =>
    intro d m h
    by_cases h0 : a = 0
    · subst h0; rw [trimD_zero] at h; exact ih d m h
    · rw [trimD_pos _ h0] at h; injection h with h _; exact h ▸ h0
theorem trimD_is (l : List Nat) (h : ∀ d ∈ l, d < 10) : trimD l = digs (valD l) := by
  rw [← valD_trimD]
  exact (digs_val _ _ rfl (fun d hd => h d (trimD_mem hd)) trimD_head).symm
end Go.Proofs.YtiancppdcfahaaaDoor

/- The plain law of utf, more: up to the place where a text can't become right, and that byte, it can't become right at that very place. -/
import Derived.Test.YtgpenejalpcjmaaLawUtf
namespace Go.Proofs.Ytgpenejalpcjmaa

theorem frontGo_more (rem : Nat) : ∀ (k lo hi : Nat) (l m : List Nat) (r : Nat), (frontGo rem k lo hi l r).2.1 = k + l.length → k + l.length ≤ (frontGo rem k lo hi (l ++ m) r).2.1 := by
  induction rem with
  | zero => intro k lo hi l m r h; rw [frontGo_end] at h ⊢; simp only at h ⊢; omega
  | succ n ih =>
    intro k lo hi l m r h
    cases l with
    | nil => have := (frontGo_bounds (n + 1) k lo hi ([] ++ m) r).1; simpa using this
    | cons d l =>
      rw [List.cons_append, frontGo]
      rw [frontGo] at h
      by_cases hd : d < lo ∨ hi < d
      · rw [if_pos hd] at h; simp at h
      · rw [if_neg hd] at h ⊢
        simp only [List.length_cons] at h ⊢
        have := ih (k + 1) 128 191 l m (r * 64 + d % 64) (by omega)
        omega
theorem frontL_more (l m : List Nat) (hne : l ≠ []) (h : (frontL l).2.1 = l.length) : l.length ≤ (frontL (l ++ m)).2.1 := by
  cases l with
  | nil => exact absurd rfl hne
  | cons c l =>
    rw [List.cons_append, frontL]
    rw [frontL] at h
    split
    · rename_i hc; rw [if_pos hc] at h; simp at h
    · rename_i hc
      rw [if_neg hc] at h
      simp only [List.length_cons] at h ⊢
      have := frontGo_more (sizeN c - 1) 1 (loN c) (hiN c) l m (headN (sizeN c) c) (by omega)
      omega
theorem open_more (a b : List Nat) : badL a = a.length → a ≠ [] → badL (a ++ b) < 0 ∨ (a.length : Int) ≤ badL (a ++ b) := by
  induction a using text_ind with
  | h0 => intro _ h; exact absurd rfl h
  | h1 l hne h =>
    intro hl _
    rw [badL_stop hne h] at hl
    have hm := frontL_more l b hne (by omega)
    cases hw : (frontL (l ++ b)).2.2 with
    | false => rw [badL_stop (by simp [hne]) hw]; omega
    | true =>
      rw [badL_front hw]
      split
      · left; decide
      · right; omega
  | h2 l h ih =>
    intro hl hne
    have hb := frontL_bounds l
    have h1 := hb.2.2 h
    have he := frontL_append l b (.inl h)
    have h' : (frontL (l ++ b)).2.2 = true := by rw [he]; exact h
    have hd : (l ++ b).drop (frontL l).2.1 = l.drop (frontL l).2.1 ++ b := List.drop_append_of_le_length hb.1
    rw [badL_front h] at hl
    by_cases hlt : badL (l.drop (frontL l).2.1) < 0
    · rw [if_pos hlt] at hl; omega
    · rw [if_neg hlt] at hl
      have hlen : (l.drop (frontL l).2.1).length = l.length - (frontL l).2.1 := List.length_drop
      rw [badL_front h', he, hd]
      by_cases hnil : l.drop (frontL l).2.1 = []
      · rw [hnil, badL_nil] at hlt; omega
      · have := ih (by omega) hnil
        split
        · left; decide
        · right; omega
/-- The beginning up to that byte says it all. -/
theorem bad_take (l : List Nat) (j : Nat) (h : badL l = j) (hj : j < l.length) : badL (l.take (j + 1)) = j := by
  have hlen : (l.take (j + 1)).length = j + 1 := by rw [List.length_take]; omega
  have hr := badL_range (l.take (j + 1))
  have he : badL (l.take (j + 1) ++ l.drop (j + 1)) = j := by rw [List.take_append_drop]; exact h
  by_cases h1 : badL (l.take (j + 1)) < 0
  · have := (join_good _ (l.drop (j + 1)) h1).1
    rw [he, hlen] at this
    split at this <;> omega
  · by_cases h2 : badL (l.take (j + 1)) < (l.take (j + 1)).length
    · have := join_bad _ (l.drop (j + 1)) (by omega) h2
      omega
    · have := open_more (l.take (j + 1)) (l.drop (j + 1)) (by omega) (by intro e; rw [e] at hlen; simp at hlen)
      rw [he, hlen] at this
      omega
end Go.Proofs.Ytgpenejalpcjmaa

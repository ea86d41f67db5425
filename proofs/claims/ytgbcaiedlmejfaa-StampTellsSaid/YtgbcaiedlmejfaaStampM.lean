/- What the document's Print puts together is a decimal's text: plain. -/
import Derived.Test.YtgbcaiedlmejfaaStampL
import Derived.Test.YtgbcaiedlmejfaaRefG
namespace Go.Proofs.Ytgbcaiedlmejfaa
open Go.RowKit

/-- Digits with noughts ahead, till there are more than S. -/
def padD (S : Nat) (l : List Nat) : List Nat := List.replicate (S + 1 - l.length) 0 ++ l
theorem padD_step {S : Nat} {l : List Nat} (h : l.length ≤ S) : padD S (0 :: l) = padD S l := by
  unfold padD
  rw [List.length_cons, show S + 1 - l.length = (S - l.length) + 1 from by omega, show S + 1 - (l.length + 1) = S - l.length from by omega, List.replicate_succ', List.append_assoc]
  rfl
theorem padD_done {S : Nat} {l : List Nat} (h : S < l.length) : padD S l = l := by
  unfold padD
  rw [show S + 1 - l.length = 0 from by omega]; rfl
theorem trim_pad : ∀ l : List Nat, l = List.replicate (l.length - (trimD l).length) 0 ++ trimD l
  | [] => rfl
  | d :: l => by
    by_cases h : d = 0
    · subst h
      rw [trimD_zero]
      have ih := trim_pad l
      have hle : (trimD l).length ≤ l.length := by
        have := congrArg List.length ih
        rw [List.length_append] at this
        omega
      rw [List.length_cons, show l.length + 1 - (trimD l).length = (l.length - (trimD l).length) + 1 from by omega, List.replicate_succ, List.cons_append, ← ih]
    · rw [trimD_pos _ h]; simp
theorem pad_is (m S : Nat) : padD S (digs m) = highD m S ++ lowD m S := by
  have hlt : ∀ d ∈ highD m S ++ lowD m S, d < 10 := by
    intro d h
    rcases List.mem_append.1 h with h | h
    · exact highD_lt m S d h
    · exact lowD_lt m S d h
  have ht := trimD_is _ hlt
  rw [val_low _ _ _ (val_high m S)] at ht
  have hp := trim_pad (highD m S ++ lowD m S)
  rw [ht] at hp
  by_cases h0 : digs (m / 10 ^ S / 10) = []
  · have hl : (highD m S ++ lowD m S).length = S + 1 := by
      rw [List.length_append, lowD_length, highD, h0]
      simp; omega
    rw [hl] at hp
    exact hp.symm
  · obtain ⟨d, l, hd⟩ : ∃ d l, digs (m / 10 ^ S / 10) = d :: l := by
      cases he : digs (m / 10 ^ S / 10) with
      | nil => exact absurd he h0
      | cons d l => exact ⟨d, l, rfl⟩
    have hn := digs_head _ d l hd
    have hh : trimD (highD m S ++ lowD m S) = highD m S ++ lowD m S := by
      rw [highD, hd]
      exact trimD_pos _ hn
    rw [ht] at hh
    rw [hh]
    refine padD_done ?_
    rw [List.length_append, lowD_length]
    have := high_pos m S
    omega

/-- Digits' bytes from a place on, the point ahead of place K. -/
def ptL (K : Nat) : Nat → List Nat → List Nat
  | _, [] => []
  | i, d :: l => (if i = K then [46] else []) ++ (48 + d) :: ptL K (i + 1) l
theorem ptL_past (K : Nat) : ∀ (l : List Nat) (i : Nat), K < i → ptL K i l = asc l
  | [], _, _ => rfl
  | d :: l, i, h => by rw [ptL, if_neg (by omega), ptL_past K l (i + 1) (by omega)]; rfl
theorem ptL_is (K : Nat) (L : List Nat) : ∀ (H : List Nat) (i : Nat), i + H.length = K → ptL K i (H ++ L) = asc H ++ (if 0 < L.length then 46 :: asc L else [])
  | [], i, h => by
    cases L with
    | nil => rfl
    | cons d L =>
      rw [List.nil_append, ptL, if_pos (by simpa using h), ptL_past K L (i + 1) (by simp at h; omega)]
      rfl
  | d :: H, i, h => by
    rw [List.cons_append, ptL, if_neg (by simp at h; omega), ptL_is K L H (i + 1) (by simp at h; omega)]
    rfl
theorem print_ref {M S : Int} (h : goodB M S = true) : printL M S = (if M < 0 then [45] else []) ++ ptL ((padD S.toNat (digs M.natAbs)).length - S.toNat) 0 (padD S.toNat (digs M.natAbs)) := by
  rw [print_is h, pad_is, ptL_is _ _ _ _ (by rw [List.length_append, lowD_length]; omega), lowD_length]

theorem strN_append (l m : List Nat) : strN l ++ strN m = strN (l ++ m) := by
  apply ByteArray.ext
  rw [ByteArray.data_append]
  unfold strN strOfNums
  simp
theorem strN_size (l : List Nat) : (strN l).size = l.length := by
  unfold strN
  rw [strOfNums_size, List.length_map]
theorem ptL_len (K : Nat) : ∀ (l : List Nat) (i : Nat), (ptL K i l).length ≤ 2 * l.length
  | [], _ => Nat.le_refl _
  | d :: l, i => by
    rw [ptL, List.length_append, List.length_cons, List.length_cons]
    have := ptL_len K l (i + 1)
    have h2 : (if i = K then [46] else ([] : List Nat)).length ≤ 1 := by split <;> simp
    omega
end Go.Proofs.Ytgbcaiedlmejfaa

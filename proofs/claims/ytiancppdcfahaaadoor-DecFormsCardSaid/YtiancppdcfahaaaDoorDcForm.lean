/- What Parse says of digits ahead of a point and behind it; noughts change no number: plain (alias Tryd). -/
import Derived.Test.YtiancppdcfahaaaDoorDecBackW
namespace Go.Proofs.YtiancppdcfahaaaDoor
open Go.RowKit

theorem parse_form (neg : Bool) (A B : List Nat) (hA : 0 < A.length) (hAl : ∀ d ∈ A, d < 10) (hBl : ∀ d ∈ B, d < 10) (s : ByteArray) (hs : byL s = (if neg then [45] else []) ++ (asc A ++ (if 0 < B.length then 46 :: asc B else []))) : parseV s = okV neg A B := by
  have hz : s.size = ((if neg then [45] else ([] : List Nat)) ++ (asc A ++ (if 0 < B.length then 46 :: asc B else []))).length := by rw [← hs, byL_length]
  have hdot : ∀ c m, (if 0 < B.length then 46 :: asc B else []) = c :: m → digB c = false := by
    intro c m hc
    split at hc
    · injection hc with hc _; rw [← hc]; decide
    · cases hc
  have hpre : pFrom s = (if neg then 1 else 0) ∧ (byL s).drop (pFrom s) = asc A ++ (if 0 < B.length then 46 :: asc B else []) := by
    unfold pFrom minusB
    rw [hs]
    cases neg
    · cases A with
      | nil => exact absurd hA (by simp)
      | cons a A =>
        have ha := hAl a (by simp)
        have e : (((if false then [45] else ([] : List Nat)) ++ (asc (a :: A) ++ if 0 < B.length then 46 :: asc B else [])).head? == some 45) = false := by
          simp [asc]
          omega
        rw [e]
        exact ⟨rfl, rfl⟩
    · exact ⟨rfl, rfl⟩
  obtain ⟨hf, hd⟩ := hpre
  have hr := runL_asc A (if 0 < B.length then 46 :: asc B else []) hAl hdot
  have hneg : (pFrom s == 1) = neg := by
    rw [hf]
    cases neg <;> rfl
  have hz2 : s.size = pFrom s + A.length + (if 0 < B.length then 1 + B.length else 0) := by
    rw [hz, hf]
    cases neg <;> by_cases hp : 0 < B.length <;> simp [hp, asc_length] <;> omega
  have hdig : digitsOf ((byL s).drop (pFrom s)) = A ++ B := by
    rw [hd, digitsOf_asc A _ hAl]
    by_cases hp : 0 < B.length
    · rw [if_pos hp, digitsOf_point]
      have := digitsOf_asc B [] hBl
      rw [List.append_nil] at this
      rw [this]
      simp [digitsOf]
    · rw [if_neg hp]
      have : B = [] := List.eq_nil_of_length_eq_zero (by omega)
      rw [this]; rfl
  have hget : (byL s)[pFrom s + A.length]? = (if 0 < B.length then some 46 else none) := by
    have : (byL s)[pFrom s + A.length]? = ((byL s).drop (pFrom s))[A.length]? := by rw [List.getElem?_drop]
    rw [this, hd, List.getElem?_append_right (by rw [asc_length]; exact Nat.le_refl _), asc_length, Nat.sub_self]
    by_cases hp : 0 < B.length
    · rw [if_pos hp, if_pos hp]; rfl
    · rw [if_neg hp, if_neg hp]; rfl
  have hrB : 0 < B.length → runL ((byL s).drop (pFrom s + A.length + 1)) = B.length := by
    intro hp
    have e : (byL s).drop (pFrom s + A.length + 1) = asc B ++ [] := by
      rw [Nat.add_assoc, ← List.drop_drop, hd, List.drop_append, asc_length, List.drop_eq_nil_of_le (by rw [asc_length]; omega), show A.length + 1 - A.length = 1 from by omega, if_pos hp]
      simp
    rw [e, runL_asc B [] hBl (fun c m hc => by cases hc)]
  unfold parseV okV
  simp only [hd, hr, hneg, hget]
  rw [← hd, hdig, if_neg (by omega)]
  by_cases hp : 0 < B.length
  · rw [if_pos hp] at hz2
    rw [if_pos (by rw [if_pos hp]), hrB hp, show pFrom s + A.length + 1 + B.length - (pFrom s + A.length) - 1 = B.length from by omega, if_neg (by omega), if_neg (by omega)]
  · rw [if_neg hp] at hz2
    have h0 : B.length = 0 := by omega
    rw [if_neg (by rw [if_neg hp]; simp), if_neg (by omega), h0]

/-- Noughts. -/
def zer (k : Nat) : List Nat := List.replicate k 0
theorem asc_zer (k : Nat) : asc (zer k) = List.replicate k 48 := by unfold asc zer; rw [List.map_replicate]
theorem zer_lt (k : Nat) : ∀ d ∈ zer k, d < 10 := by intro d h; rw [List.eq_of_mem_replicate h]; decide
theorem valD_zer (k : Nat) (l : List Nat) : valD (zer k ++ l) = valD l := by
  induction k with
  | zero => rfl
  | succ k ih =>
    show valD (0 :: (zer k ++ l)) = _
    rw [valD_cons, ih]; omega
theorem valD_behind (l : List Nat) : ∀ k, valD (l ++ zer k) = valD l * 10 ^ k
  | 0 => by simp [zer]
  | k + 1 => by
    rw [show zer (k + 1) = zer k ++ [0] from List.replicate_succ', ← List.append_assoc, valD_snoc, valD_behind l k, Nat.pow_succ, ← Nat.mul_assoc]; omega

/-- A decimal's text without its sign. -/
def bodyL (M S : Int) : List Nat := asc (highD M.natAbs S.toNat) ++ (if 0 < S.toNat then 46 :: asc (lowD M.natAbs S.toNat) else [])
theorem forms_is {M S : Int} (h : goodB M S = true) (hM : I64 M) (a b : Nat) (s : ByteArray) (hs : byL s = (if M < 0 then [45] else []) ++ List.replicate a 48 ++ bodyL M S ++ (if S = 0 ∧ 0 < b then [46] else []) ++ List.replicate b 48) : parseV s = ((M, S), 0, 0) := by
  obtain ⟨ok, dm, ds⟩ := decSv_of h hM
  obtain ⟨⟨hS0, hS1⟩, _⟩ := good_of h
  have hA := high_pos M.natAbs S.toNat
  have hAl := highD_lt M.natAbs S.toNat
  have hBl := lowD_lt M.natAbs S.toNat
  have hBn := lowD_length M.natAbs S.toNat
  have hv := val_low (highD M.natAbs S.toNat) S.toNat M.natAbs (val_high _ _)
  unfold bodyL at hs
  generalize highD M.natAbs S.toNat = A at *
  generalize lowD M.natAbs S.toNat = B at *
  have hs2 : byL s = (if decide (M < 0) then [45] else []) ++ (asc (zer a ++ A) ++ (if 0 < (B ++ zer b).length then 46 :: asc (B ++ zer b) else [])) := by
    rw [hs, asc_append, asc_append, asc_zer, asc_zer]
    have hlen : (B ++ zer b).length = S.toNat + b := by rw [List.length_append, hBn]; simp [zer]
    rw [hlen]
    by_cases hn : M < 0
    all_goals
      by_cases h1 : 0 < S.toNat
      · rw [if_pos h1, if_neg (show ¬ (S = 0 ∧ 0 < b) from by omega), if_pos (show 0 < S.toNat + b from by omega)]
        simp [hn]
      · have hB0 : B = [] := List.eq_nil_of_length_eq_zero (by omega)
        subst hB0
        by_cases h2 : 0 < b
        · rw [if_neg h1, if_pos (show S = 0 ∧ 0 < b from by omega), if_pos (show 0 < S.toNat + b from by omega)]
          simp [hn, asc]
        · obtain rfl : b = 0 := by omega
          rw [if_neg h1, if_neg (show ¬ (S = 0 ∧ 0 < 0) from by omega), if_neg (show ¬ 0 < S.toNat + 0 from by omega)]
          simp [hn]
  rw [parse_form (decide (M < 0)) (zer a ++ A) (B ++ zer b) (by rw [List.length_append]; omega) (fun d hd => by
    rcases List.mem_append.1 hd with h | h
    · exact zer_lt a d h
    · exact hAl d h) (fun d hd => by
    rcases List.mem_append.1 hd with h | h
    · exact hBl d h
    · exact zer_lt b d h) s hs2]
  rw [okV_if _ _ _ (M.natAbs * 10 ^ b) (S.toNat + b) (by rw [List.append_assoc, valD_zer, ← List.append_assoc, valD_behind, hv]) (by rw [List.length_append, hBn]; simp [zer])]
  have e : strip (M.natAbs * 10 ^ b) (S.toNat + b) = strip M.natAbs S.toNat := strip_ups _ _ _
  have e1 : decOk (M.natAbs * 10 ^ b) (S.toNat + b) = decOk M.natAbs S.toNat := by unfold decOk; rw [e]
  have e2 : decMv (decide (M < 0)) (M.natAbs * 10 ^ b) (S.toNat + b) = decMv (decide (M < 0)) M.natAbs S.toNat := by unfold decMv; rw [e1, e]
  have e3 : decSv (M.natAbs * 10 ^ b) (S.toNat + b) = decSv M.natAbs S.toNat := by unfold decSv; rw [e1, e]
  rw [e1, e2, e3, if_pos ok, dm, ds]
end Go.Proofs.YtiancppdcfahaaaDoor

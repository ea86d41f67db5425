/- What stamp's whole tells of digits: plain. -/
import Derived.Test.YtgbcaiedlmejfaaStampN
namespace Go.Proofs.Ytgbcaiedlmejfaa
open Go.RowKit

theorem wGo_over : ∀ (A : List Nat) (n : Nat), (∀ d ∈ A, d < 10) → ∃ m, wGo (asc A) n true = (m, true, [])
  | [], n, _ => ⟨n, rfl⟩
  | d :: A, n, h => by
    have hd := h d (by simp)
    obtain ⟨m, hm⟩ := wGo_over A n (fun x hx => h x (List.mem_cons_of_mem _ hx))
    refine ⟨m, ?_⟩
    show wGo ((48 + d) :: asc A) n true = _
    rw [wGo, if_pos (by omega), if_pos (by simp), hm]
/-- A number with digits behind it. -/
def valF (A : List Nat) (n : Nat) : Nat := A.foldl (fun n d => n * 10 + d) n
theorem valF_ge : ∀ (A : List Nat) (n : Nat), n ≤ valF A n
  | [], n => Nat.le_refl _
  | d :: A, n => Nat.le_trans (by omega) (valF_ge A (n * 10 + d))
theorem wGo_asc : ∀ (A : List Nat) (n : Nat), (∀ d ∈ A, d < 10) → n ≤ 9223372036854775807 → (valF A n ≤ 9223372036854775807 → wGo (asc A) n false = (valF A n, false, [])) ∧ (9223372036854775807 < valF A n → ∃ m, wGo (asc A) n false = (m, true, []))
  | [], n, _, hn => ⟨fun _ => rfl, fun h => absurd h (by show ¬ _ < n; omega)⟩
  | d :: A, n, h, hn => by
    have hd := h d (by simp)
    have h2 := fun x hx => h x (List.mem_cons_of_mem _ hx)
    have e : valF (d :: A) n = valF A (n * 10 + d) := rfl
    have hge := valF_ge A (n * 10 + d)
    have e2 : wGo (asc (d :: A)) n false = if (false || decide (n > (9223372036854775807 - (48 + d - 48)) / 10)) = true then wGo (asc A) n true else wGo (asc A) (n * 10 + (48 + d - 48)) false := by
      show wGo ((48 + d) :: asc A) n false = _
      rw [wGo, if_pos (by omega)]
    rw [e, e2, show 48 + d - 48 = d from by omega]
    by_cases ho : n * 10 + d ≤ 9223372036854775807
    · rw [if_neg (by simp; omega)]
      exact wGo_asc A (n * 10 + d) h2 ho
    · rw [if_pos (by simp; omega)]
      exact ⟨fun h => absurd h (by omega), fun _ => wGo_over A n h2⟩

theorem wholeV_plus {A : List Nat} {s : ByteArray} (sg : Bool) (hs : byL s = asc A) (h0 : 0 < A.length) (hA : ∀ d ∈ A, d < 10) : (valD A ≤ 9223372036854775807 → wholeV s sg = ((valD A : Int), 0, 0)) ∧ (9223372036854775807 < valD A → wholeV s sg = (0, 12, 0)) := by
  have hm : minusB s = false := by
    unfold minusB
    rw [hs]
    cases A with
    | nil => simp at h0
    | cons d A => simp [asc]; have := hA d (by simp); omega
  have hf : wFrom s sg = 0 := by unfold wFrom; rw [hm]; simp
  have hz : s.size = A.length := by rw [← byL_length, hs, asc_length]
  obtain ⟨g1, g2⟩ := wGo_asc A 0 hA (by omega)
  unfold wholeV
  rw [hf, List.drop_zero, hs]
  refine ⟨fun h => ?_, fun h => ?_⟩
  · rw [g1 h]
    simp only [List.length_nil]
    rw [if_neg (fun h => h.elim (fun h => by omega) (fun h => h rfl))]
    rfl
  · obtain ⟨m, hm⟩ := g2 h
    rw [hm]
    simp only [List.length_nil]
    rw [if_neg (fun h => h.elim (fun h => by omega) (fun h => h rfl))]
    rfl
theorem wholeV_minus {A : List Nat} {s : ByteArray} (hs : byL s = 45 :: asc A) (h0 : 0 < A.length) (hA : ∀ d ∈ A, d < 10) : (valD A ≤ 9223372036854775807 → wholeV s true = (-(valD A : Int), 0, 0)) ∧ (9223372036854775807 < valD A → wholeV s true = (0, 12, 0)) ∧ wholeV s false = (0, 11, 0) := by
  have hm : minusB s = true := by
    unfold minusB
    rw [hs]
    rfl
  have hf : wFrom s true = 1 := by unfold wFrom; rw [hm]; rfl
  have hf2 : wFrom s false = 0 := rfl
  have hz : s.size = A.length + 1 := by rw [← byL_length, hs, List.length_cons, asc_length]
  obtain ⟨g1, g2⟩ := wGo_asc A 0 hA (by omega)
  refine ⟨fun h => ?_, fun h => ?_, ?_⟩
  · unfold wholeV
    rw [hf, hs, List.drop_one, List.tail_cons, g1 h]
    simp only [List.length_nil]
    rw [if_neg (fun h => h.elim (fun h => by omega) (fun h => h rfl))]
    rfl
  · unfold wholeV
    obtain ⟨m, hm⟩ := g2 h
    rw [hf, hs, List.drop_one, List.tail_cons, hm]
    simp only [List.length_nil]
    rw [if_neg (fun h => h.elim (fun h => by omega) (fun h => h rfl))]
    rfl
  · unfold wholeV
    rw [hf2, List.drop_zero, hs]
    have e : wGo (45 :: asc A) 0 false = (0, false, 45 :: asc A) := by rw [wGo, if_neg (by omega)]
    rw [e, if_pos (.inr (by simp))]
    simp only [List.length_cons, asc_length]
    rw [hz]
    simp

/-- Noughts ahead of digits. -/
def zerosD (k : Nat) (A : List Nat) : List Nat := List.replicate k 0 ++ A
theorem zerosD_val : ∀ (k : Nat) (A : List Nat), valD (zerosD k A) = valD A
  | 0, A => rfl
  | k + 1, A => by
    have e : zerosD (k + 1) A = 0 :: zerosD k A := rfl
    rw [e, valD_cons, zerosD_val k A]; simp
theorem zerosD_lt {k : Nat} {A : List Nat} (h : ∀ d ∈ A, d < 10) : ∀ d ∈ zerosD k A, d < 10 := by
  intro d hd
  rcases List.mem_append.1 hd with h1 | h1
  · have := List.eq_of_mem_replicate h1; omega
  · exact h d h1
theorem asc_bytes {A : List Nat} (h : ∀ d ∈ A, d < 10) : ∀ c ∈ asc A, c < 256 := by
  intro c hc
  obtain ⟨d, hd, rfl⟩ := List.mem_map.1 hc
  have := h d hd; omega
theorem byL_asc {A : List Nat} (h : ∀ d ∈ A, d < 10) : byL (strN (asc A)) = asc A := byL_strN _ (asc_bytes h)
theorem byL_masc {A : List Nat} (h : ∀ d ∈ A, d < 10) : byL (strN (45 :: asc A)) = 45 :: asc A := byL_strN _ (by
  intro c hc
  rcases List.mem_cons.1 hc with h1 | h1
  · omega
  · exact asc_bytes h c h1)
theorem strN_tail (c : Nat) (l : List Nat) : (strN (c :: l)).extract 1 (strN (c :: l)).size = strN l := by
  apply ByteArray.ext
  have e : (strN (c :: l)).data.toList.drop 1 = (strN l).data.toList := by
    unfold strN strOfNums
    simp
  apply Array.toList_inj.1
  rw [← e, strN_size]
  simp [strN, strOfNums]
  rw [List.take_of_length_le (by simp)]
end Go.Proofs.Ytgbcaiedlmejfaa

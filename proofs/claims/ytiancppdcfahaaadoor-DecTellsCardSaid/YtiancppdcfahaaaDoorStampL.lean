/- A decimal's text is read as that decimal: plain. -/
import Derived.Test.YtiancppdcfahaaaDoorStampJ
import Derived.Test.YtiancppdcfahaaaDoorStampG
namespace Go.Proofs.YtiancppdcfahaaaDoor
open Go.RowKit

/-- The bytes of digits. -/
def asc (l : List Nat) : List Nat := l.map (fun d => 48 + d)
theorem asc_append (l m : List Nat) : asc (l ++ m) = asc l ++ asc m := List.map_append
theorem asc_length (l : List Nat) : (asc l).length = l.length := List.length_map _
theorem asc_one (d : Nat) : asc [d] = [48 + d] := rfl
theorem digB_asc (d : Nat) (h : d < 10) : digB (48 + d) = true := by unfold digB; simp; omega
theorem runL_asc : ∀ (l r : List Nat), (∀ d ∈ l, d < 10) → (∀ c m, r = c :: m → digB c = false) → runL (asc l ++ r) = l.length
  | [], r, _, hr => by
    cases r with
    | nil => rfl
    | cons c m =>
      show runL (c :: m) = 0
      unfold runL
      rw [hr c m rfl]; rfl
  | d :: l, r, h, hr => by
    show runL ((48 + d) :: (asc l ++ r)) = l.length + 1
    rw [runL, if_pos (digB_asc d (h d (by simp))), runL_asc l r (fun x hx => h x (List.mem_cons_of_mem _ hx)) hr]
theorem digitsOf_asc (l r : List Nat) (h : ∀ d ∈ l, d < 10) : digitsOf (asc l ++ r) = l ++ digitsOf r := by
  induction l with
  | nil => rfl
  | cons d l ih =>
    have ih2 := ih (fun x hx => h x (List.mem_cons_of_mem _ hx))
    unfold digitsOf at ih2 ⊢
    show List.map (fun c => c - 48) (List.filter digB ((48 + d) :: (asc l ++ r))) = _
    rw [List.filter_cons_of_pos (digB_asc d (h d (by simp))), List.map_cons, ih2]
    simp
theorem digitsOf_point (r : List Nat) : digitsOf (46 :: r) = digitsOf r := by
  unfold digitsOf
  rw [List.filter_cons_of_neg (by decide)]

/-- The last digits of a number, so many. -/
def lowD : Nat → Nat → List Nat
  | _, 0 => []
  | m, n + 1 => lowD (m / 10) n ++ [m % 10]
theorem lowD_length : ∀ m n, (lowD m n).length = n
  | _, 0 => rfl
  | m, n + 1 => by simp [lowD, lowD_length (m / 10) n]
theorem lowD_lt : ∀ m n, ∀ d ∈ lowD m n, d < 10
  | _, 0, d, h => by cases h
  | m, n + 1, d, h => by
    rw [lowD, List.mem_append, List.mem_singleton] at h
    rcases h with h | h
    · exact lowD_lt _ _ d h
    · omega
/-- The digits ahead of the point. -/
def highD (m S : Nat) : List Nat := digs (m / 10 ^ S / 10) ++ [m / 10 ^ S % 10]
theorem highD_lt (m S : Nat) : ∀ d ∈ highD m S, d < 10 := by
  intro d h
  rw [highD, List.mem_append, List.mem_singleton] at h
  rcases h with h | h
  · exact digs_lt _ d h
  · omega
theorem high_pos (m S : Nat) : 0 < (highD m S).length := by simp [highD]
theorem val_high (m S : Nat) : valD (highD m S) = m / 10 ^ S := by
  rw [highD, valD_snoc, valD_digs]; omega
theorem val_low : ∀ (A : List Nat) (n m : Nat), valD A = m / 10 ^ n → valD (A ++ lowD m n) = m
  | A, 0, m, h => by simpa [lowD] using h
  | A, n + 1, m, h => by
    rw [lowD, ← List.append_assoc, valD_snoc, val_low A n (m / 10) (by rw [h, Nat.div_div_eq_div_mul, Nat.pow_succ, Nat.mul_comm])]
    omega

theorem prL_past : ∀ (n m k S : Nat) (acc : List Nat), m ≤ n → S < k → prL m k S acc = asc (digs m) ++ acc
  | n, m, k, S, acc, hn, hk => by
    by_cases h : 0 < m
    · rw [prL_step _ (.inl h), if_neg (by omega), digs_pos h, asc_append, asc_one, List.append_assoc]
      cases n with
      | zero => omega
      | succ n => exact prL_past n (m / 10) (k + 1) S _ (by omega) (by omega)
    · obtain rfl : m = 0 := by omega
      rw [prL_stop _ (by omega), digs_zero]; rfl
theorem prL_at (m S : Nat) (acc : List Nat) : prL m S S acc = asc (digs (m / 10) ++ [m % 10]) ++ (if 0 < S then 46 :: acc else acc) := by
  rw [prL_step _ (.inr (Nat.le_refl _)), prL_past _ (m / 10) (S + 1) S _ (Nat.le_refl _) (by omega), asc_append, asc_one, List.append_assoc]
  by_cases h : 0 < S
  · rw [if_pos ⟨h, rfl⟩, if_pos h]; rfl
  · rw [if_neg (by omega), if_neg h]; rfl
theorem prL_low : ∀ (n m k S : Nat) (acc : List Nat), k + n = S → prL m k S acc = asc (highD m n) ++ (if 0 < S then 46 :: (asc (lowD m n) ++ acc) else acc)
  | 0, m, k, S, acc, h => by
    obtain rfl : k = S := by omega
    rw [prL_at]
    simp [highD, lowD, asc]
  | n + 1, m, k, S, acc, h => by
    rw [prL_step _ (.inr (by omega)), if_neg (by omega), prL_low n (m / 10) (k + 1) S _ (by omega)]
    have e : highD (m / 10) n = highD m (n + 1) := by
      have e2 : m / 10 / 10 ^ n = m / 10 ^ (n + 1) := by rw [Nat.div_div_eq_div_mul, Nat.pow_succ, Nat.mul_comm]
      unfold highD
      rw [e2]
    rw [e, lowD, asc_append, asc_one, List.append_assoc, if_pos (by omega), if_pos (by omega)]
    rfl
theorem print_is {M S : Int} (h : goodB M S = true) : printL M S = (if M < 0 then [45] else []) ++ (asc (highD M.natAbs S.toNat) ++ (if 0 < S.toNat then 46 :: asc (lowD M.natAbs S.toNat) else [])) := by
  unfold printL
  rw [if_pos h, prL_low S.toNat M.natAbs 0 S.toNat [] (by omega), List.append_nil]
  by_cases hn : M < 0
  · rw [if_pos hn, if_pos hn]; rfl
  · rw [if_neg hn, if_neg hn]; rfl

theorem decSv_of {M S : Int} (h : goodB M S = true) (hM : I64 M) : decOk M.natAbs S.toNat = true ∧ decMv (decide (M < 0)) M.natAbs S.toNat = M ∧ decSv M.natAbs S.toNat = S := by
  have := canZ_good h hM
  unfold canZ at this
  injection this with h1 h2
  injection h1 with h3 h4
  exact ⟨h2, h3, h4⟩

/-- A decimal's text is read as that decimal. -/
theorem parse_print {M S : Int} (h : goodB M S = true) (hM : I64 M) (s : ByteArray) (hs : byL s = printL M S) : parseV s = ((M, S), 0, 0) := by
  obtain ⟨ok, dm, ds⟩ := decSv_of h hM
  obtain ⟨⟨hS0, hS1⟩, _⟩ := good_of h
  have hz : s.size = (printL M S).length := by rw [← hs, byL_length]
  have hA := high_pos M.natAbs S.toNat
  have hAl := highD_lt M.natAbs S.toNat
  have hBl := lowD_lt M.natAbs S.toNat
  have hBn := lowD_length M.natAbs S.toNat
  have hv := val_low (highD M.natAbs S.toNat) S.toNat M.natAbs (val_high _ _)
  rw [print_is h] at hs hz
  generalize highD M.natAbs S.toNat = A at *
  generalize lowD M.natAbs S.toNat = B at *
  have hdot : ∀ c m, (if 0 < S.toNat then 46 :: asc B else []) = c :: m → digB c = false := by
    intro c m hc
    split at hc
    · injection hc with hc _; rw [← hc]; decide
    · cases hc
  have hpre : pFrom s = (if M < 0 then 1 else 0) ∧ (byL s).drop (pFrom s) = asc A ++ (if 0 < S.toNat then 46 :: asc B else []) := by
    unfold pFrom minusB
    rw [hs]
    by_cases hn : M < 0
    · rw [if_pos hn, if_pos hn]
      exact ⟨rfl, rfl⟩
    · rw [if_neg hn, if_neg hn]
      cases A with
      | nil => exact absurd hA (by simp)
      | cons a A =>
        have ha := hAl a (by simp)
        have e : ((([] : List Nat) ++ (asc (a :: A) ++ if 0 < S.toNat then 46 :: asc B else [])).head? == some 45) = false := by
          simp [asc]
          omega
        rw [e]
        exact ⟨rfl, rfl⟩
  obtain ⟨hf, hd⟩ := hpre
  have hr := runL_asc A (if 0 < S.toNat then 46 :: asc B else []) hAl hdot
  have hneg : (pFrom s == 1) = decide (M < 0) := by
    rw [hf]
    by_cases hn : M < 0 <;> simp [hn]
  have hz2 : s.size = pFrom s + A.length + (if 0 < S.toNat then 1 + S.toNat else 0) := by
    rw [hz, hf]
    by_cases hn : M < 0 <;> by_cases hp : 0 < S.toNat <;> simp [hn, hp, asc_length, hBn] <;> omega
  have hdig : digitsOf ((byL s).drop (pFrom s)) = A ++ B := by
    rw [hd, digitsOf_asc A _ hAl]
    by_cases hp : 0 < S.toNat
    · rw [if_pos hp, digitsOf_point]
      have := digitsOf_asc B [] hBl
      rw [List.append_nil] at this
      rw [this]
      simp [digitsOf]
    · rw [if_neg hp]
      have : B = [] := List.eq_nil_of_length_eq_zero (by omega)
      rw [this]; rfl
  have hget : (byL s)[pFrom s + A.length]? = (if 0 < S.toNat then some 46 else none) := by
    have : (byL s)[pFrom s + A.length]? = ((byL s).drop (pFrom s))[A.length]? := by rw [List.getElem?_drop]
    rw [this, hd, List.getElem?_append_right (by rw [asc_length]; exact Nat.le_refl _), asc_length, Nat.sub_self]
    by_cases hp : 0 < S.toNat
    · rw [if_pos hp, if_pos hp]; rfl
    · rw [if_neg hp, if_neg hp]; rfl
  have hrB : 0 < S.toNat → runL ((byL s).drop (pFrom s + A.length + 1)) = S.toNat := by
    intro hp
    have e : (byL s).drop (pFrom s + A.length + 1) = asc B ++ [] := by
      rw [Nat.add_assoc, ← List.drop_drop, hd, List.drop_append, asc_length, List.drop_eq_nil_of_le (by rw [asc_length]; omega), show A.length + 1 - A.length = 1 from by omega, if_pos hp]
      simp
    rw [e, runL_asc B [] hBl (fun c m hc => by cases hc), hBn]
  unfold parseV
  simp only [hd, hr, hneg, hget]
  rw [← hd, hdig, hv, if_neg (by omega)]
  by_cases hp : 0 < S.toNat
  · rw [if_pos hp] at hz2
    rw [if_pos (by rw [if_pos hp]), hrB hp, show pFrom s + A.length + 1 + S.toNat - (pFrom s + A.length) - 1 = S.toNat from by omega, if_neg (by omega), if_neg (by omega), if_pos ok, dm, ds]
  · rw [if_neg hp] at hz2
    have h0 : S.toNat = 0 := by omega
    rw [h0] at ok dm ds
    rw [if_neg (by rw [if_neg hp]; simp), if_neg (by omega), if_pos ok, dm, ds]

/-- Bytes below 256 are those of their text. -/
theorem byL_strN (l : List Nat) (h : ∀ c ∈ l, c < 256) : byL (strN l) = l := by
  unfold byL strN
  rw [strOfNums]
  show List.map _ (List.toArray _).toList = l
  simp only [List.map_map]
  conv => rhs; rw [← List.map_id l]
  apply List.map_congr_left
  intro c hc
  have := h c hc
  simp
  omega
theorem print_bytes (M S : Int) : ∀ c ∈ printL M S, c < 256 := by
  intro c hc
  by_cases g : goodB M S = true
  · rw [print_is g, List.mem_append, List.mem_append] at hc
    have ha : ∀ l : List Nat, (∀ d ∈ l, d < 10) → ∀ c ∈ asc l, c < 256 := by
      intro l hl c hc
      obtain ⟨d, hd, rfl⟩ := List.mem_map.1 hc
      have := hl d hd; omega
    rcases hc with hc | hc | hc
    · split at hc
      · rw [List.mem_singleton] at hc; omega
      · cases hc
    · exact ha _ (highD_lt _ _) c hc
    · split at hc
      · rcases List.mem_cons.1 hc with h | h
        · omega
        · exact ha _ (lowD_lt _ _) c h
      · cases hc
  · unfold printL at hc; rw [if_neg g] at hc; cases hc
end Go.Proofs.YtiancppdcfahaaaDoor

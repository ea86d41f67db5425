/- The walks of dec.Good, sum.counted, shared, without. -/
import Derived.Test.YtiancppdcfahaaaDoorWideE
namespace Go.Proofs.YtiancppdcfahaaaDoor
open Go.RowKit

/-- A decimal as a value. -/
def decV (M S : Int) : Value := .agg #[.int .i64 M, .int .i64 S]
/-- Whether a decimal may be. -/
def goodB (M S : Int) : Bool := decide (0 ≤ S ∧ S ≤ 18 ∧ M ≠ -9223372036854775808 ∧ (S = 0 ∨ M.tmod 10 ≠ 0))
/-- The numbers of an int64. -/
def I64 (m : Int) : Prop := -9223372036854775808 ≤ m ∧ m ≤ 9223372036854775807

set_option maxHeartbeats 2000000 in
set_option maxRecDepth 100000 in
theorem Good_any (M S : Int) (w : World) (hM : I64 M) (hS : I64 S) :
    Calls Tryd.prog 13 #[decV M S] w fun e w' => e = .returned (.bool (goodB M S)) ∧ Ext w w' := by
  unfold decV
  obtain ⟨hM1, hM2⟩ := hM
  obtain ⟨hS1, hS2⟩ := hS
  by_cases h0 : 0 ≤ S
  · by_cases h1 : S ≤ 18
    · by_cases h2 : M = -9223372036854775808
      · have hb : goodB M S = false := by unfold goodB; simp [h2]
        have H := Lib.hid hb
        have n2 : binOp .neq 2 (.int .i64 M) (.int .i64 (-9223372036854775808)) = pure (.bool false) := by
          rw [h2]; rfl
        clear h2 hb
        go_enter Tryd.func13, Tryd.ntmps13
        go_wp2_with fail
        go_ret
        exact ⟨retB H.out.symm, (Ext.refl _).alloc _⟩
      · have n2 : binOp .neq 2 (.int .i64 M) (.int .i64 (-9223372036854775808)) = pure (.bool true) := by
          simp only [go_sem]; rw [show (M != -9223372036854775808) = true from by simpa using h2]
        by_cases h3 : S = 0
        · have hb : goodB M S = true := by unfold goodB; exact decide_eq_true ⟨h0, h1, h2, .inl h3⟩
          have H := Lib.hid hb
          clear h2 hb
          subst h3
          go_enter Tryd.func13, Tryd.ntmps13
          go_wp2_with fail
          go_ret
          exact ⟨retB H.out.symm, (Ext.refl _).alloc _⟩
        · by_cases h4 : M.tmod 10 = 0
          · have hb : goodB M S = false := by unfold goodB; simp [h3, h4]
            have H := Lib.hid hb
            clear h2 hb
            go_enter Tryd.func13, Tryd.ntmps13
            go_wp2_with fail
            go_ret
            exact ⟨retB (by rw [H.out]; simpa using h3), (Ext.refl _).alloc _⟩
          · have hb : goodB M S = true := by unfold goodB; exact decide_eq_true ⟨h0, h1, h2, .inr h4⟩
            have H := Lib.hid hb
            clear h2 hb
            go_enter Tryd.func13, Tryd.ntmps13
            go_wp2_with fail
            go_ret
            exact ⟨retB (by rw [H.out]; simp [h4]), (Ext.refl _).alloc _⟩
    · have hb : goodB M S = false := by unfold goodB; simp [h1]
      have H := Lib.hid hb
      clear hb
      go_enter Tryd.func13, Tryd.ntmps13
      go_wp2_with fail
      go_ret
      exact ⟨retB H.out.symm, (Ext.refl _).alloc _⟩
  · have hb : goodB M S = false := by unfold goodB; simp [h0]
    have H := Lib.hid hb
    clear hb
    go_enter Tryd.func13, Tryd.ntmps13
    go_wp2_with fail
    go_ret
    exact ⟨retB H.out.symm, (Ext.refl _).alloc _⟩

/-- The greatest number that divides both. -/
theorem gcd_step (a b : Nat) : Nat.gcd b (a % b) = Nat.gcd a b := by rw [Nat.gcd_comm b, ← Nat.gcd_rec b a, Nat.gcd_comm]

theorem pow_lt_k {by' k m n : Nat} (h2 : 2 ≤ by') (h : n = m * by' ^ k) (hm : 0 < m) (hn : n < W64) : k < 64 := by
  have h1 : 2 ^ k ≤ by' ^ k := Nat.pow_le_pow_left h2 k
  have h3 : by' ^ k ≤ n := by rw [h]; exact Nat.le_mul_of_pos_left _ hm
  have h4 : 2 ^ k < 2 ^ 64 := by unfold W64 at hn; omega
  exact (Nat.pow_lt_pow_iff_right (by omega)).1 h4

end Go.Proofs.YtiancppdcfahaaaDoor

/- The walks of dec.Good, sum.counted, shared, without. -/
import Derived.Test.YthfihlapgoglaaaWideE
namespace Go.Proofs.Ythfihlapgoglaaa
open Go.RowKit

/-- A decimal as a value. -/
def decV (M S : Int) : Value := .agg #[.int .i64 M, .int .i64 S]
/-- Whether a decimal may be. -/
def goodB (M S : Int) : Bool := decide (0 ≤ S ∧ S ≤ 18 ∧ M ≠ -9223372036854775808 ∧ (S = 0 ∨ M.tmod 10 ≠ 0))
/-- The numbers of an int64. -/
def I64 (m : Int) : Prop := -9223372036854775808 ≤ m ∧ m ≤ 9223372036854775807

set_option maxHeartbeats 2000000 in
set_option maxRecDepth 100000 in
theorem Good_any (M S : Int) (w : World) (hM : I64 M) (hS : I64 S) :
    Calls Try.prog 23 #[decV M S] w fun e w' => e = .returned (.bool (goodB M S)) ∧ Ext w w' := by
  unfold decV
  obtain ⟨hM1, hM2⟩ := hM
  obtain ⟨hS1, hS2⟩ := hS
  by_cases h0 : 0 ≤ S
  · by_cases h1 : S ≤ 18
    · by_cases h2 : M = -9223372036854775808
      · have hb : goodB M S = false := by unfold goodB; simp [h2]
        have H := Lib.hid hb
        have n2 : binOp .neq 2 (.int .i64 M) (.int .i64 (-9223372036854775808)) = pure (.bool false) := by
          rw [h2]; rfl
        clear h2 hb
        go_enter Try.func23, Try.ntmps23
        go_wp2_with fail
        go_ret
        exact ⟨retB H.out.symm, (Ext.refl _).alloc _⟩
      · have n2 : binOp .neq 2 (.int .i64 M) (.int .i64 (-9223372036854775808)) = pure (.bool true) := by
          simp only [go_sem]; rw [show (M != -9223372036854775808) = true from by simpa using h2]
        by_cases h3 : S = 0
        · have hb : goodB M S = true := by unfold goodB; exact decide_eq_true ⟨h0, h1, h2, .inl h3⟩
          have H := Lib.hid hb
          clear h2 hb
          subst h3
          go_enter Try.func23, Try.ntmps23
          go_wp2_with fail
          go_ret
          exact ⟨retB H.out.symm, (Ext.refl _).alloc _⟩
        · by_cases h4 : M.tmod 10 = 0
          · have hb : goodB M S = false := by unfold goodB; simp [h3, h4]
            have H := Lib.hid hb
            clear h2 hb
            go_enter Try.func23, Try.ntmps23
            go_wp2_with fail
            go_ret
            exact ⟨retB (by rw [H.out]; simpa using h3), (Ext.refl _).alloc _⟩
          · have hb : goodB M S = true := by unfold goodB; exact decide_eq_true ⟨h0, h1, h2, .inr h4⟩
            have H := Lib.hid hb
            clear h2 hb
            go_enter Try.func23, Try.ntmps23
            go_wp2_with fail
            go_ret
            exact ⟨retB (by rw [H.out]; simp [h4]), (Ext.refl _).alloc _⟩
    · have hb : goodB M S = false := by unfold goodB; simp [h1]
      have H := Lib.hid hb
      clear hb
      go_enter Try.func23, Try.ntmps23
      go_wp2_with fail
      go_ret
      exact ⟨retB H.out.symm, (Ext.refl _).alloc _⟩
  · have hb : goodB M S = false := by unfold goodB; simp [h0]
    have H := Lib.hid hb
    clear hb
    go_enter Try.func23, Try.ntmps23
    go_wp2_with fail
    go_ret
    exact ⟨retB H.out.symm, (Ext.refl _).alloc _⟩

/-- The greatest number that divides both. -/
theorem gcd_step (a b : Nat) : Nat.gcd b (a % b) = Nat.gcd a b := by rw [Nat.gcd_comm b, ← Nat.gcd_rec b a, Nat.gcd_comm]

set_option maxHeartbeats 2000000 in
set_option maxRecDepth 100000 in
theorem shared_any (a b : Nat) (w : World) (ha : a < W64) (hb : b < W64) :
    Calls Try.prog 35 #[.int .u64 a, .int .u64 b] w fun e w' => e = .returned (.int .u64 (Nat.gcd a b : Int)) ∧ Ext w w' := by
  unfold W64 at *
  go_enter Try.func35, Try.ntmps35
  go_wp2_with fail
  go_loopw [0, 1] (fun x y wr => ∃ a' b' : Nat, a' < 18446744073709551616 ∧ b' < 18446744073709551616 ∧ x = .int .u64 a' ∧ y = .int .u64 b' ∧ Hid (Nat.gcd a' b' = Nat.gcd a b) ∧ Ext w wr) (fun _ y _ => (intOf y).toNat)
  case atStart => exact ⟨a, b, ha, hb, rfl, rfl, rfl, Ext.refl _⟩
  case round =>
    obtain ⟨a', b', g1, g2, rfl, rfl, g3, hx⟩ := hrel
    by_cases hz : 0 < b'
    · have hr : ((a' : Int) % (b' : Int)) = ((a' % b' : Nat) : Int) := rfl
      have hlt : a' % b' < b' := Nat.mod_lt _ hz
      go_wp2_with fail
      go_region
      go_wp2_with fail
      refine ⟨⟨b', a' % b', g2, by omega, rfl, rfl, Lib.hid ((gcd_step a' b').trans g3.out), hx.drew⟩, ?_⟩
      simp only [intOf]
      rw [hr]
      omega
    · obtain rfl : b' = 0 := by omega
      go_wp2_with fail
      go_ret
      have := g3.out
      rw [Nat.gcd_zero_right] at this
      exact ⟨retI (by rw [this]), hx⟩

theorem pow_lt_k {by' k m n : Nat} (h2 : 2 ≤ by') (h : n = m * by' ^ k) (hm : 0 < m) (hn : n < W64) : k < 64 := by
  have h1 : 2 ^ k ≤ by' ^ k := Nat.pow_le_pow_left h2 k
  have h3 : by' ^ k ≤ n := by rw [h]; exact Nat.le_mul_of_pos_left _ hm
  have h4 : 2 ^ k < 2 ^ 64 := by unfold W64 at hn; omega
  exact (Nat.pow_lt_pow_iff_right (by omega)).1 h4

set_option maxHeartbeats 2000000 in
set_option maxRecDepth 100000 in
theorem without2 (n : Nat) (w : World) (hn0 : 0 < n) (hn : n < W64) :
    Calls Try.prog 36 #[.int .u64 n, .int .u64 2] w fun e w' => (∃ m k : Nat, e = .returned (.tuple #[.int .u64 (m : Int), .int .i64 (k : Int)]) ∧ n = m * 2 ^ k ∧ m % 2 ≠ 0 ∧ 0 < m ∧ m ≤ n ∧ k < 64) ∧ Ext w w' := by
  go_enter Try.func36, Try.ntmps36
  go_wp2_with fail
  go_loopw [0, 6] (fun x y wr => ∃ m k : Nat, x = .int .u64 m ∧ y = .int .i64 k ∧ Hid (n = m * 2 ^ k) ∧ 0 < m ∧ m ≤ n ∧ k < 64 ∧ Ext w wr) (fun x _ _ => (intOf x).toNat)
  case atStart => exact ⟨n, 0, rfl, rfl, Lib.hid (by simp), hn0, Nat.le_refl _, by omega, Ext.refl _⟩
  case round =>
    obtain ⟨m, k, rfl, rfl, g1, g2, g3, g4, hx⟩ := hrel
    unfold W64 at *
    by_cases hz : m % 2 = 0
    · have e1 : n = (m / 2) * 2 ^ (k + 1) := by
        have h := g1.out
        rw [Nat.pow_succ, Nat.mul_comm (2 ^ k), ← Nat.mul_assoc, show m / 2 * 2 = m from by omega]; exact h
      have hk : k + 1 < 64 := pow_lt_k (by omega) e1 (by omega) (by unfold W64; omega)
      have E1 := Lib.hid e1
      clear g1 e1
      go_wp2_with fail
      go_roundw
      case rel => exact ⟨m / 2, k + 1, rfl, rfl, E1, by omega, by omega, hk, hx⟩
      case measure => simp only [intOf]; omega
    · go_wp2_with fail
      go_ret2
      exact ⟨⟨m, k, rfl, g1.out, hz, g2, g3, g4⟩, hx⟩

set_option maxHeartbeats 2000000 in
set_option maxRecDepth 100000 in
theorem without5 (n : Nat) (w : World) (hn0 : 0 < n) (hn : n < W64) :
    Calls Try.prog 36 #[.int .u64 n, .int .u64 5] w fun e w' => (∃ m k : Nat, e = .returned (.tuple #[.int .u64 (m : Int), .int .i64 (k : Int)]) ∧ n = m * 5 ^ k ∧ m % 5 ≠ 0 ∧ 0 < m ∧ m ≤ n ∧ k < 64) ∧ Ext w w' := by
  go_enter Try.func36, Try.ntmps36
  go_wp2_with fail
  go_loopw [0, 6] (fun x y wr => ∃ m k : Nat, x = .int .u64 m ∧ y = .int .i64 k ∧ Hid (n = m * 5 ^ k) ∧ 0 < m ∧ m ≤ n ∧ k < 64 ∧ Ext w wr) (fun x _ _ => (intOf x).toNat)
  case atStart => exact ⟨n, 0, rfl, rfl, Lib.hid (by simp), hn0, Nat.le_refl _, by omega, Ext.refl _⟩
  case round =>
    obtain ⟨m, k, rfl, rfl, g1, g2, g3, g4, hx⟩ := hrel
    unfold W64 at *
    by_cases hz : m % 5 = 0
    · have e1 : n = (m / 5) * 5 ^ (k + 1) := by
        have h := g1.out
        rw [Nat.pow_succ, Nat.mul_comm (5 ^ k), ← Nat.mul_assoc, show m / 5 * 5 = m from by omega]; exact h
      have hk : k + 1 < 64 := pow_lt_k (by omega) e1 (by omega) (by unfold W64; omega)
      have E1 := Lib.hid e1
      clear g1 e1
      go_wp2_with fail
      go_roundw
      case rel => exact ⟨m / 5, k + 1, rfl, rfl, E1, by omega, by omega, hk, hx⟩
      case measure => simp only [intOf]; omega
    · go_wp2_with fail
      go_ret2
      exact ⟨⟨m, k, rfl, g1.out, hz, g2, g3, g4⟩, hx⟩
end Go.Proofs.Ythfihlapgoglaaa

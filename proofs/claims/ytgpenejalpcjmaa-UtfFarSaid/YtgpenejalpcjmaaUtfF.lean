/- The walks of the reference's Bytes and of utf.Encode. -/
import Derived.Test.YtgpenejalpcjmaaUtfE
import Derived.Test.YtgpenejalpcjmaaConv
namespace Go.Proofs.Ytgpenejalpcjmaa
open Go.RowKit

theorem ofL_nums (l : List Nat) : strOfNums (l.map fun n : Nat => (n : Int)) = ofL l := by
  simp [strOfNums, ofL, Function.comp_def]

theorem i32and63 (x : Int) (h0 : 0 ≤ x) (h1 : x < 2147483648) : bits .and .i32 x 63 = x % 64 := bits_mask .i32 31 (by decide) wraps_i32 6 (by decide) x h0 h1

theorem i32or224 (y : Int) (h0 : 0 ≤ y) (h1 : y < 32) : bits .or .i32 224 y = 224 + y := bits_join .i32 31 (by decide) wraps_i32 5 224 y (by omega) (by decide) (by decide) h0 h1 (by omega)
theorem i32or240 (y : Int) (h0 : 0 ≤ y) (h1 : y < 16) : bits .or .i32 240 y = 240 + y := bits_join .i32 31 (by decide) wraps_i32 4 240 y (by omega) (by decide) (by decide) h0 h1 (by omega)

set_option maxHeartbeats 1000000 in
set_option maxRecDepth 100000 in
theorem Bytes_any (r : Int) (w : World) (h0 : -2147483648 ≤ r) (h1 : r ≤ 2147483647) :
    Calls Try.prog 12 #[.int .i32 r] w fun e w' => e = .returned (.string (encS r)) ∧ Ext w w' := by
  have c1 := conv1
  have c2 := conv2
  have c3 := conv3
  have c4 := conv4
  by_cases ha : r < 0 ∨ 1114111 < r ∨ (55296 ≤ r ∧ r ≤ 57343)
  · rcases ha with ha | ha | ⟨ha, hb⟩
    all_goals
      have HE : Hid (encS r = ByteArray.empty) := by unfold Hid encS; rw [if_neg]; simp [isScalar]; omega
      go_enter Try.func12, Try.ntmps12
      go_wp2_with fail
      go_ret
      rw [HE.out]
      exact ⟨rfl, Ext.refl _⟩
  · obtain ⟨n, rfl⟩ := Int.eq_ofNat_of_zero_le (show 0 ≤ r by omega)
    have HE : Hid (encS n = ofL (encL n)) := by unfold Hid encS; rw [if_pos (by simp [isScalar]; omega)]; simp
    have hn : n ≤ 1114111 := by omega
    have b1 := i32and63 n (by omega) (by omega)
    have b2 := i32and63 (n / 64) (by omega) (by omega)
    have b3 := i32and63 (n / 4096) (by omega) (by omega)
    obtain hs | hs : n < 55296 ∨ 57343 < n := by omega
    all_goals
      clear ha
      by_cases h7 : n < 128
      · try (exfalso; omega)
        all_goals
          go_enter Try.func12, Try.ntmps12
          go_wp2_with fail
          go_ret
          rw [HE.out, ← ofL_nums]
          simp (disch := omega) only [encL, if_pos]
          exact ⟨rfl, (Ext.refl _).alloc _⟩
      · by_cases h11 : n < 2048
        · try (exfalso; omega)
          all_goals
            go_enter Try.func12, Try.ntmps12
            go_wp2_with fail
            go_ret
            rw [HE.out, ← ofL_nums]
            simp (disch := omega) only [encL, if_pos, if_neg]
            exact ⟨rfl, (Ext.refl _).alloc _⟩
        · by_cases h16 : n < 65536
          · have o1 := i32or224 (n / 4096) (by omega) (by omega)
            have hd : binOp .lss 21 (.int .i32 (n : Int)) (.int .i32 65536) = pure (.bool true) := by simp only [go_sem]; rw [show decide ((n : Int) < 65536) = true from by simp; omega]
            go_enter Try.func12, Try.ntmps12
            go_wp2_with fail
            go_ret
            rw [HE.out, ← ofL_nums]
            simp (disch := omega) only [encL, if_pos, if_neg]
            exact ⟨rfl, (Ext.refl _).alloc _⟩
          · try (exfalso; omega)
            all_goals
              have o1 := i32or240 (n / 262144) (by omega) (by omega)
              have hd : binOp .lss 21 (.int .i32 (n : Int)) (.int .i32 65536) = pure (.bool false) := by simp only [go_sem]; rw [show decide ((n : Int) < 65536) = false from by simp; omega]
              go_enter Try.func12, Try.ntmps12
              go_wp2_with fail
              go_ret
              rw [HE.out, ← ofL_nums]
              simp (disch := omega) only [encL, if_neg]
              exact ⟨rfl, (Ext.refl _).alloc _⟩
end Go.Proofs.Ytgpenejalpcjmaa

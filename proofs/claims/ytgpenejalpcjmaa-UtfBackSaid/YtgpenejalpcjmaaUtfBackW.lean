/- The walk of the law UtfBack. -/
import Derived.Test.YtgpenejalpcjmaaUtfK
import Derived.Test.YtgpenejalpcjmaaLawUtf
namespace Go.Proofs.Ytgpenejalpcjmaa
open Go.RowKit

set_option maxHeartbeats 2000000 in
set_option maxRecDepth 100000 in
theorem Back_neg (r : Int) (a b : ByteArray) (w : World) (ha : a.size ≤ 50) (hb : b.size ≤ 50) (h : r < 0) :
    Calls Try.prog 4 #[.int .i32 r, .string a, .string b] w fun e w' => e = .returned (.bool true) ∧ Ext w w' := by
  have hs : isScalar r = false := by simp [isScalar]; omega
  have HE := Encode_at r ByteArray.empty false (by unfold encS; rw [if_neg (by simp [hs])]) hs
  clear hs
  go_enter Try.func4, Try.ntmps4
  go_wp2_with fail
  refine (known_any _).mono ?_
  rintro e w1 ⟨rfl, x1⟩
  go_wp2_with fail
  refine (HE _).mono ?_
  rintro e w2 ⟨rfl, x2⟩
  go_wp2_with fail
  go_ret
  exact ⟨rfl, x1.trans x2⟩

set_option maxHeartbeats 2000000 in
set_option maxRecDepth 100000 in
theorem Back_big (r : Int) (a b : ByteArray) (w : World) (ha : a.size ≤ 50) (hb : b.size ≤ 50) (h : 1114111 < r) :
    Calls Try.prog 4 #[.int .i32 r, .string a, .string b] w fun e w' => e = .returned (.bool true) ∧ Ext w w' := by
  have k1 : binOp .leq 21 (.int .i32 r) (.int .i32 1114111) = pure (.bool false) := by simp only [go_sem]; rw [show decide (r ≤ 1114111) = false from by simp; omega]
  have hs : isScalar r = false := by simp [isScalar]; omega
  have HE := Encode_at r ByteArray.empty false (by unfold encS; rw [if_neg (by simp [hs])]) hs
  clear hs
  go_enter Try.func4, Try.ntmps4
  go_wp2_with fail
  refine (known_any _).mono ?_
  rintro e w1 ⟨rfl, x1⟩
  go_wp2_with fail
  refine (HE _).mono ?_
  rintro e w2 ⟨rfl, x2⟩
  go_wp2_with fail
  go_ret
  exact ⟨rfl, x1.trans x2⟩

set_option maxHeartbeats 2000000 in
set_option maxRecDepth 100000 in
theorem Back_half (r : Int) (a b : ByteArray) (w : World) (ha : a.size ≤ 50) (hb : b.size ≤ 50) (h : 55296 ≤ r) (h' : r ≤ 57343) :
    Calls Try.prog 4 #[.int .i32 r, .string a, .string b] w fun e w' => e = .returned (.bool true) ∧ Ext w w' := by
  have k1 : binOp .leq 21 (.int .i32 r) (.int .i32 1114111) = pure (.bool true) := by simp only [go_sem]; rw [show decide (r ≤ 1114111) = true from by simp; omega]
  have k2 : binOp .lss 21 (.int .i32 r) (.int .i32 55296) = pure (.bool false) := by simp only [go_sem]; rw [show decide (r < 55296) = false from by simp; omega]
  have k3 : binOp .gtr 21 (.int .i32 r) (.int .i32 57343) = pure (.bool false) := by simp only [go_sem]; rw [show decide (r > 57343) = false from by simp; omega]
  have hs : isScalar r = false := by simp [isScalar]; omega
  have HE := Encode_at r ByteArray.empty false (by unfold encS; rw [if_neg (by simp [hs])]) hs
  clear hs
  go_enter Try.func4, Try.ntmps4
  go_wp2_with fail
  refine (known_any _).mono ?_
  rintro e w1 ⟨rfl, x1⟩
  go_wp2_with fail
  refine (HE _).mono ?_
  rintro e w2 ⟨rfl, x2⟩
  go_wp2_with fail
  go_ret
  exact ⟨rfl, x1.trans x2⟩

set_option maxHeartbeats 2000000 in
set_option maxRecDepth 100000 in
theorem Back_lo (r : Int) (a b : ByteArray) (w : World) (ha : a.size ≤ 50) (hb : b.size ≤ 50) (h : 0 ≤ r) (h' : r < 55296) :
    Calls Try.prog 4 #[.int .i32 r, .string a, .string b] w fun e w' => e = .returned (.bool true) ∧ Ext w w' := by
  have k1 : binOp .leq 21 (.int .i32 r) (.int .i32 1114111) = pure (.bool true) := by simp only [go_sem]; rw [show decide (r ≤ 1114111) = true from by simp; omega]
  have k2 : binOp .lss 21 (.int .i32 r) (.int .i32 55296) = pure (.bool true) := by simp only [go_sem]; rw [show decide (r < 55296) = true from by simp; omega]
  have hs : isScalar r = true := by simp [isScalar]; omega
  obtain ⟨n, rfl, hn, hs⟩ := scalar_nat hs
  have HE := Encode_at n (encS n) true rfl hs
  have HN := next_enc n hs a b
  have hz := size_encS n
  have hsz : (a ++ encS n ++ b).size ≤ 9223372036854775807 := by
    have : (a ++ encS n ++ b).size = a.size + (encS n).size + b.size := by simp; try omega
    omega
  have NX := Next_at _ _ _ HN hsz
  have BD := Bad_at (encS n) (-1) (by rw [bs_encS n hs]; exact (bad_enc n hs).1) (by omega)
  have CT := Count_at (encS n) 1 (by rw [bs_encS n hs]; exact (bad_enc n hs).2) (by omega)
  clear hs HN hsz h'
  go_enter Try.func4, Try.ntmps4
  go_wp2_with fail
  refine (known_any _).mono ?_
  rintro e w1 ⟨rfl, x1⟩
  go_wp2_with fail
  refine (HE _).mono ?_
  rintro e w2 ⟨rfl, x2⟩
  go_wp2_with fail
  refine (NX _).mono ?_
  rintro e w3 ⟨rfl, x3⟩
  go_wp2_with fail
  refine (BD _).mono ?_
  rintro e w4 ⟨rfl, x4⟩
  go_wp2_with fail
  refine (CT _).mono ?_
  rintro e w5 ⟨rfl, x5⟩
  go_wp2_with fail
  go_ret
  exact ⟨rfl, x1.trans (x2.trans (x3.trans (x4.trans x5)))⟩

set_option maxHeartbeats 2000000 in
set_option maxRecDepth 100000 in
theorem Back_hi (r : Int) (a b : ByteArray) (w : World) (ha : a.size ≤ 50) (hb : b.size ≤ 50) (h : 57343 < r) (h' : r ≤ 1114111) :
    Calls Try.prog 4 #[.int .i32 r, .string a, .string b] w fun e w' => e = .returned (.bool true) ∧ Ext w w' := by
  have k1 : binOp .leq 21 (.int .i32 r) (.int .i32 1114111) = pure (.bool true) := by simp only [go_sem]; rw [show decide (r ≤ 1114111) = true from by simp; omega]
  have k2 : binOp .lss 21 (.int .i32 r) (.int .i32 55296) = pure (.bool false) := by simp only [go_sem]; rw [show decide (r < 55296) = false from by simp; omega]
  have k3 : binOp .gtr 21 (.int .i32 r) (.int .i32 57343) = pure (.bool true) := by simp only [go_sem]; rw [show decide (r > 57343) = true from by simp; omega]
  have hs : isScalar r = true := by simp [isScalar]; omega
  obtain ⟨n, rfl, hn, hs⟩ := scalar_nat hs
  have HE := Encode_at n (encS n) true rfl hs
  have HN := next_enc n hs a b
  have hz := size_encS n
  have hsz : (a ++ encS n ++ b).size ≤ 9223372036854775807 := by
    have : (a ++ encS n ++ b).size = a.size + (encS n).size + b.size := by simp; try omega
    omega
  have NX := Next_at _ _ _ HN hsz
  have BD := Bad_at (encS n) (-1) (by rw [bs_encS n hs]; exact (bad_enc n hs).1) (by omega)
  have CT := Count_at (encS n) 1 (by rw [bs_encS n hs]; exact (bad_enc n hs).2) (by omega)
  clear hs HN hsz
  go_enter Try.func4, Try.ntmps4
  go_wp2_with fail
  refine (known_any _).mono ?_
  rintro e w1 ⟨rfl, x1⟩
  go_wp2_with fail
  refine (HE _).mono ?_
  rintro e w2 ⟨rfl, x2⟩
  go_wp2_with fail
  refine (NX _).mono ?_
  rintro e w3 ⟨rfl, x3⟩
  go_wp2_with fail
  refine (BD _).mono ?_
  rintro e w4 ⟨rfl, x4⟩
  go_wp2_with fail
  refine (CT _).mono ?_
  rintro e w5 ⟨rfl, x5⟩
  go_wp2_with fail
  go_ret
  exact ⟨rfl, x1.trans (x2.trans (x3.trans (x4.trans x5)))⟩

set_option maxHeartbeats 2000000 in
set_option maxRecDepth 100000 in
theorem Back_walk (r : Int) (a b : ByteArray) (w : World) :
    Calls Try.prog 4 #[.int .i32 r, .string a, .string b] w fun e w' => e = .returned (.bool true) ∧ Ext w w' := by
  by_cases ha : 50 < a.size
  · go_enter Try.func4, Try.ntmps4
    go_wp2_with fail
    refine (known_any _).mono ?_
    rintro e w1 ⟨rfl, x1⟩
    go_wp2_with fail
    go_ret
    exact ⟨rfl, x1⟩
  · by_cases hb : 50 < b.size
    · go_enter Try.func4, Try.ntmps4
      go_wp2_with fail
      refine (known_any _).mono ?_
      rintro e w1 ⟨rfl, x1⟩
      go_wp2_with fail
      go_ret
      exact ⟨rfl, x1⟩
    · by_cases h1 : r < 0
      · exact Back_neg r a b w (by omega) (by omega) h1
      · by_cases h2 : 1114111 < r
        · exact Back_big r a b w (by omega) (by omega) h2
        · by_cases h3 : r < 55296
          · exact Back_lo r a b w (by omega) (by omega) (by omega) h3
          · by_cases h4 : 57343 < r
            · exact Back_hi r a b w (by omega) (by omega) h4 (by omega)
            · exact Back_half r a b w (by omega) (by omega) (by omega) (by omega)
end Go.Proofs.Ytgpenejalpcjmaa

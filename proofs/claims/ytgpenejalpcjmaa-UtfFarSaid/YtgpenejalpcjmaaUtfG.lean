/- The walk of utf.Encode. -/
import Derived.Test.YtgpenejalpcjmaaUtfF
namespace Go.Proofs.Ytgpenejalpcjmaa
open Go.RowKit

theorem mk1 (w : World) : (Instr.makeSlice 43 (.int .i64 1) (.int .i64 1)).run Try.prog w = .ok (.slice (some ⟨w.heap.size, 0, none⟩) 1 1) (w.alloc (.cells #[.int .u8 0] 5)) := by kernel_rfl
theorem mk3 (w : World) : (Instr.makeSlice 43 (.int .i64 3) (.int .i64 3)).run Try.prog w = .ok (.slice (some ⟨w.heap.size, 0, none⟩) 3 3) (w.alloc (.cells #[.int .u8 0, .int .u8 0, .int .u8 0] 5)) := by kernel_rfl
theorem mk4 (w : World) : (Instr.makeSlice 43 (.int .i64 4) (.int .i64 4)).run Try.prog w = .ok (.slice (some ⟨w.heap.size, 0, none⟩) 4 4) (w.alloc (.cells #[.int .u8 0, .int .u8 0, .int .u8 0, .int .u8 0] 5)) := by kernel_rfl
theorem mk2 (w : World) : (Instr.makeSlice 43 (.int .i64 2) (.int .i64 2)).run Try.prog w = .ok (.slice (some ⟨w.heap.size, 0, none⟩) 2 2) (w.alloc (.cells #[.int .u8 0, .int .u8 0] 5)) := by kernel_rfl

theorem cat1 (w : World) (X Y : Obj) (a : Int) : (convert 43 9 (.slice (some ⟨w.heap.size + 1 + 1, 0, none⟩) 1 1)).run Try.prog (((w.alloc X).alloc Y).alloc (.cells #[.int .u8 a] 5)) = .ok (.string (strOfNums [a])) (((w.alloc X).alloc Y).alloc (.cells #[.int .u8 a] 5)) := by
  have := conv1 ((w.alloc X).alloc Y) a
  simpa only [World.size_alloc] using this
theorem cat2 (w : World) (X Y : Obj) (a b : Int) : (convert 43 9 (.slice (some ⟨w.heap.size + 1 + 1, 0, none⟩) 2 2)).run Try.prog (((w.alloc X).alloc Y).alloc (.cells #[.int .u8 a, .int .u8 b] 5)) = .ok (.string (strOfNums [a, b])) (((w.alloc X).alloc Y).alloc (.cells #[.int .u8 a, .int .u8 b] 5)) := by
  have := conv2 ((w.alloc X).alloc Y) a b
  simpa only [World.size_alloc] using this
theorem cat3 (w : World) (X Y : Obj) (a b c : Int) : (convert 43 9 (.slice (some ⟨w.heap.size + 1 + 1, 0, none⟩) 3 3)).run Try.prog (((w.alloc X).alloc Y).alloc (.cells #[.int .u8 a, .int .u8 b, .int .u8 c] 5)) = .ok (.string (strOfNums [a, b, c])) (((w.alloc X).alloc Y).alloc (.cells #[.int .u8 a, .int .u8 b, .int .u8 c] 5)) := by
  have := conv3 ((w.alloc X).alloc Y) a b c
  simpa only [World.size_alloc] using this
theorem cat4 (w : World) (X Y : Obj) (a b c d : Int) : (convert 43 9 (.slice (some ⟨w.heap.size + 1 + 1, 0, none⟩) 4 4)).run Try.prog (((w.alloc X).alloc Y).alloc (.cells #[.int .u8 a, .int .u8 b, .int .u8 c, .int .u8 d] 5)) = .ok (.string (strOfNums [a, b, c, d])) (((w.alloc X).alloc Y).alloc (.cells #[.int .u8 a, .int .u8 b, .int .u8 c, .int .u8 d] 5)) := by
  have := conv4 ((w.alloc X).alloc Y) a b c d
  simpa only [World.size_alloc] using this

theorem or0 (c : Nat) (h : c < 128) : bits BinOp.or IntKind.u8 0 (c : Int) = (c : Int) := by
  have H : ∀ x : Fin 128, bits BinOp.or IntKind.u8 0 ((x.val : Nat) : Int) = ((x.val : Nat) : Int) := by decide +kernel
  exact H ⟨c, h⟩

set_option maxHeartbeats 1000000 in
set_option maxRecDepth 100000 in
theorem Encode_1 (n : Nat) (w : World) (h1 : n < 128) :
    Calls Try.prog 11 #[.int .i32 n] w fun e w' => e = .returned (.tuple #[.string (encS n), .bool true]) ∧ Ext w w' := by
  have c2 := cat1
  have HE : Hid (encS n = ofL (encL n)) := by unfold Hid encS; rw [if_pos (by simp [isScalar]; omega)]; simp
  have m2 := mk1
  have o1 := or0 n h1
  have hd1 : binOp .gtr 21 (.int .i32 (n : Int)) (.int .i32 1114111) = pure (.bool false) := by simp only [go_sem]; rw [show decide ((n : Int) > 1114111) = false from by simp; omega]
  have hd2 : binOp .geq 21 (.int .i32 (n : Int)) (.int .i32 55296) = pure (.bool false) := by simp only [go_sem]; rw [show decide ((n : Int) ≥ 55296) = false from by simp; omega]
  go_enter Try.func11, Try.ntmps11
  go_wp2_with fail
  refine wp_loop_rounds 1 ?_
  rw [rounds_succ]
  go_wp2_with fail
  refine wp_loop_rounds 1 ?_
  rw [rounds_succ]
  go_wp2_with fail
  go_ret2
  rw [HE.out, ← ofL_nums]
  simp (disch := omega) only [encL, if_pos]
  exact ⟨rfl, (((Ext.refl _).alloc _).alloc _).alloc _⟩

set_option maxHeartbeats 1000000 in
set_option maxRecDepth 100000 in
theorem Encode_2 (n : Nat) (w : World) (h0 : 128 ≤ n) (h1 : n < 2048) :
    Calls Try.prog 11 #[.int .i32 n] w fun e w' => e = .returned (.tuple #[.string (encS n), .bool true]) ∧ Ext w w' := by
  have c2 := cat2
  have HE : Hid (encS n = ofL (encL n)) := by unfold Hid encS; rw [if_pos (by simp [isScalar]; omega)]; simp
  have m2 := mk2
  have hd1 : binOp .gtr 21 (.int .i32 (n : Int)) (.int .i32 1114111) = pure (.bool false) := by simp only [go_sem]; rw [show decide ((n : Int) > 1114111) = false from by simp; omega]
  have hd2 : binOp .geq 21 (.int .i32 (n : Int)) (.int .i32 55296) = pure (.bool false) := by simp only [go_sem]; rw [show decide ((n : Int) ≥ 55296) = false from by simp; omega]
  go_enter Try.func11, Try.ntmps11
  go_wp2_with fail
  refine wp_loop_rounds 2 ?_
  rw [rounds_succ]
  go_wp2_with fail
  rw [rounds_succ]
  go_wp2_with fail
  refine wp_loop_rounds 2 ?_
  rw [rounds_succ]
  go_wp2_with fail
  rw [rounds_succ]
  go_wp2_with fail
  go_ret2
  rw [HE.out, ← ofL_nums]
  simp (disch := omega) only [encL, if_pos, if_neg]
  try rw [show n / 4096 = n / 64 / 64 from by omega]
  exact ⟨rfl, (((Ext.refl _).alloc _).alloc _).alloc _⟩

set_option maxHeartbeats 1000000 in
set_option maxRecDepth 100000 in
theorem Encode_3a (n : Nat) (w : World) (h0 : 2048 ≤ n) (h1 : n < 55296) :
    Calls Try.prog 11 #[.int .i32 n] w fun e w' => e = .returned (.tuple #[.string (encS n), .bool true]) ∧ Ext w w' := by
  have c2 := cat3
  have HE : Hid (encS n = ofL (encL n)) := by unfold Hid encS; rw [if_pos (by simp [isScalar]; omega)]; simp
  have m2 := mk3
  have hd1 : binOp .gtr 21 (.int .i32 (n : Int)) (.int .i32 1114111) = pure (.bool false) := by simp only [go_sem]; rw [show decide ((n : Int) > 1114111) = false from by simp; omega]
  have hd2 : binOp .geq 21 (.int .i32 (n : Int)) (.int .i32 55296) = pure (.bool false) := by simp only [go_sem]; rw [show decide ((n : Int) ≥ 55296) = false from by simp; omega]
  have hd4 : binOp .gtr 21 (.int .i32 (n : Int)) (.int .i32 65535) = pure (.bool false) := by simp only [go_sem]; rw [show decide ((n : Int) > 65535) = false from by simp; omega]
  go_enter Try.func11, Try.ntmps11
  go_wp2_with fail
  refine wp_loop_rounds 3 ?_
  rw [rounds_succ]
  go_wp2_with fail
  rw [rounds_succ]
  go_wp2_with fail
  rw [rounds_succ]
  go_wp2_with fail
  refine wp_loop_rounds 3 ?_
  rw [rounds_succ]
  go_wp2_with fail
  rw [rounds_succ]
  go_wp2_with fail
  rw [rounds_succ]
  go_wp2_with fail
  go_ret2
  rw [HE.out, ← ofL_nums]
  simp (disch := omega) only [encL, if_pos, if_neg]
  try rw [show n / 4096 = n / 64 / 64 from by omega]
  exact ⟨rfl, (((Ext.refl _).alloc _).alloc _).alloc _⟩

set_option maxHeartbeats 1000000 in
set_option maxRecDepth 100000 in
theorem Encode_3b (n : Nat) (w : World) (h0 : 57343 < n) (h1 : n < 65536) :
    Calls Try.prog 11 #[.int .i32 n] w fun e w' => e = .returned (.tuple #[.string (encS n), .bool true]) ∧ Ext w w' := by
  have c2 := cat3
  have HE : Hid (encS n = ofL (encL n)) := by unfold Hid encS; rw [if_pos (by simp [isScalar]; omega)]; simp
  have m2 := mk3
  have hd1 : binOp .gtr 21 (.int .i32 (n : Int)) (.int .i32 1114111) = pure (.bool false) := by simp only [go_sem]; rw [show decide ((n : Int) > 1114111) = false from by simp; omega]
  have hd2 : binOp .geq 21 (.int .i32 (n : Int)) (.int .i32 55296) = pure (.bool true) := by simp only [go_sem]; rw [show decide ((n : Int) ≥ 55296) = true from by simp; omega]
  have hd3 : binOp .leq 21 (.int .i32 (n : Int)) (.int .i32 57343) = pure (.bool false) := by simp only [go_sem]; rw [show decide ((n : Int) ≤ 57343) = false from by simp; omega]
  have hd4 : binOp .gtr 21 (.int .i32 (n : Int)) (.int .i32 65535) = pure (.bool false) := by simp only [go_sem]; rw [show decide ((n : Int) > 65535) = false from by simp; omega]
  go_enter Try.func11, Try.ntmps11
  go_wp2_with fail
  refine wp_loop_rounds 3 ?_
  rw [rounds_succ]
  go_wp2_with fail
  rw [rounds_succ]
  go_wp2_with fail
  rw [rounds_succ]
  go_wp2_with fail
  refine wp_loop_rounds 3 ?_
  rw [rounds_succ]
  go_wp2_with fail
  rw [rounds_succ]
  go_wp2_with fail
  rw [rounds_succ]
  go_wp2_with fail
  go_ret2
  rw [HE.out, ← ofL_nums]
  simp (disch := omega) only [encL, if_pos, if_neg]
  try rw [show n / 4096 = n / 64 / 64 from by omega]
  exact ⟨rfl, (((Ext.refl _).alloc _).alloc _).alloc _⟩

set_option maxHeartbeats 1000000 in
set_option maxRecDepth 100000 in
theorem Encode_4 (n : Nat) (w : World) (h0 : 65536 ≤ n) (h1 : n ≤ 1114111) :
    Calls Try.prog 11 #[.int .i32 n] w fun e w' => e = .returned (.tuple #[.string (encS n), .bool true]) ∧ Ext w w' := by
  have c2 := cat4
  have HE : Hid (encS n = ofL (encL n)) := by unfold Hid encS; rw [if_pos (by simp [isScalar]; omega)]; simp
  have m2 := mk4
  have hd1 : binOp .gtr 21 (.int .i32 (n : Int)) (.int .i32 1114111) = pure (.bool false) := by simp only [go_sem]; rw [show decide ((n : Int) > 1114111) = false from by simp; omega]
  have hd2 : binOp .geq 21 (.int .i32 (n : Int)) (.int .i32 55296) = pure (.bool true) := by simp only [go_sem]; rw [show decide ((n : Int) ≥ 55296) = true from by simp; omega]
  have hd3 : binOp .leq 21 (.int .i32 (n : Int)) (.int .i32 57343) = pure (.bool false) := by simp only [go_sem]; rw [show decide ((n : Int) ≤ 57343) = false from by simp; omega]
  have hd4 : binOp .gtr 21 (.int .i32 (n : Int)) (.int .i32 65535) = pure (.bool true) := by simp only [go_sem]; rw [show decide ((n : Int) > 65535) = true from by simp; omega]
  go_enter Try.func11, Try.ntmps11
  go_wp2_with fail
  refine wp_loop_rounds 4 ?_
  rw [rounds_succ]
  go_wp2_with fail
  rw [rounds_succ]
  go_wp2_with fail
  rw [rounds_succ]
  go_wp2_with fail
  rw [rounds_succ]
  go_wp2_with fail
  refine wp_loop_rounds 4 ?_
  rw [rounds_succ]
  go_wp2_with fail
  rw [rounds_succ]
  go_wp2_with fail
  rw [rounds_succ]
  go_wp2_with fail
  rw [rounds_succ]
  go_wp2_with fail
  go_ret2
  rw [HE.out, ← ofL_nums]
  simp (disch := omega) only [encL, if_neg]
  rw [show n / 4096 = n / 64 / 64 from by omega, show n / 262144 = n / 64 / 64 / 64 from by omega]
  exact ⟨rfl, (((Ext.refl _).alloc _).alloc _).alloc _⟩

set_option maxHeartbeats 1000000 in
set_option maxRecDepth 100000 in
theorem Encode_no (r : Int) (w : World) (h : isScalar r = false) :
    Calls Try.prog 11 #[.int .i32 r] w fun e w' => e = .returned (.tuple #[.string (encS r), .bool false]) ∧ Ext w w' := by
  have HE : Hid (encS r = ByteArray.empty) := by unfold Hid encS; rw [if_neg (by simp [h])]
  have ha : r < 0 ∨ 1114111 < r ∨ (55296 ≤ r ∧ r ≤ 57343) := by simp [isScalar] at h; omega
  clear h
  rcases ha with ha | ha | ⟨ha, hb⟩
  · go_enter Try.func11, Try.ntmps11
    go_wp2_with fail
    go_ret2
    rw [HE.out]
    exact ⟨rfl, Ext.refl _⟩
  · have hd1 : binOp .gtr 21 (.int .i32 r) (.int .i32 1114111) = pure (.bool true) := by simp only [go_sem]; rw [show decide (r > 1114111) = true from by simp; omega]
    go_enter Try.func11, Try.ntmps11
    go_wp2_with fail
    go_ret2
    rw [HE.out]
    exact ⟨rfl, Ext.refl _⟩
  · have hd1 : binOp .gtr 21 (.int .i32 r) (.int .i32 1114111) = pure (.bool false) := by simp only [go_sem]; rw [show decide (r > 1114111) = false from by simp; omega]
    have hd2 : binOp .geq 21 (.int .i32 r) (.int .i32 55296) = pure (.bool true) := by simp only [go_sem]; rw [show decide (r ≥ 55296) = true from by simp; omega]
    have hd3 : binOp .leq 21 (.int .i32 r) (.int .i32 57343) = pure (.bool true) := by simp only [go_sem]; rw [show decide (r ≤ 57343) = true from by simp; omega]
    go_enter Try.func11, Try.ntmps11
    go_wp2_with fail
    go_ret2
    rw [HE.out]
    exact ⟨rfl, Ext.refl _⟩

theorem Encode_any (r : Int) (w : World) :
    Calls Try.prog 11 #[.int .i32 r] w fun e w' => e = .returned (.tuple #[.string (encS r), .bool (isScalar r)]) ∧ Ext w w' := by
  cases hs : isScalar r with
  | false => exact Encode_no r w hs
  | true =>
    have h : 0 ≤ r ∧ r ≤ 1114111 ∧ ¬ (55296 ≤ r ∧ r ≤ 57343) := by simp [isScalar] at hs; omega
    obtain ⟨n, rfl⟩ := Int.eq_ofNat_of_zero_le h.1
    by_cases h1 : n < 128
    · exact Encode_1 n w h1
    · by_cases h2 : n < 2048
      · exact Encode_2 n w (by omega) h2
      · by_cases h3 : n < 55296
        · exact Encode_3a n w (by omega) h3
        · by_cases h4 : n < 65536
          · exact Encode_3b n w (by omega) h4
          · exact Encode_4 n w (by omega) (by omega)
end Go.Proofs.Ytgpenejalpcjmaa

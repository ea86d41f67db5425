/- The walks of stamp.Ms, Of, Seconds. -/
import Derived.Test.YtgbcaiedlmejfaaStampA
namespace Go.Proofs.Ytgbcaiedlmejfaa
open Go.RowKit

/-- Whether so many of a unit are a time, and which. -/
def msOk (n L P : Int) : Bool := decide (n.tmod P = 0 ∧ (n.tdiv P ≤ (1125899906842624 : Int).tdiv L ∧ (-1125899906842624 : Int).tdiv L ≤ n.tdiv P))
def msV (n L P : Int) : Int := if msOk n L P then n.tdiv P * L else 0
/-- Whether a time is so many of a unit, and how many. -/
def ofOk (n L P : Int) : Bool := decide (timeB n = true ∧ n.tmod L = 0 ∧ (n.tdiv L ≤ (9223372036854775807 : Int).tdiv P ∧ (-9223372036854775808 : Int).tdiv P ≤ n.tdiv L))
def ofV (n L P : Int) : Int := if ofOk n L P then n.tdiv L * P else 0
theorem tdiv_range (n : Int) (P : Int) (hP : 1 ≤ P) (h : I64 n) : I64 (n.tdiv P) := by
  have h1 : (n.tdiv P).natAbs ≤ n.natAbs := by rw [Int.natAbs_tdiv]; exact Nat.div_le_self _ _
  unfold I64 at *
  by_cases h0 : 0 ≤ n
  · have := Int.tdiv_nonneg h0 (by omega : 0 ≤ P); omega
  · have h2 : n.tdiv P ≤ 0 := by
      have := Int.tdiv_nonneg (a := -n) (b := P) (by omega) (by omega)
      rw [Int.neg_tdiv] at this; omega
    omega

set_option maxHeartbeats 4000000 in
set_option maxRecDepth 100000 in
theorem Ms_0 (n : Int) (w : World) (h : I64 n) :
    Calls Try.prog 16 #[.int .i64 n, .int .i64 0] w fun e w' => e = .returned (.tuple #[.int .i64 (msV n 1000 1), .bool (msOk n 1000 1)]) ∧ Ext w w' := by
  have hq := tdiv_range n 1 (by omega) h
  have t1 : (1125899906842624 : Int).tdiv 1000 = 1125899906842 := by decide
  have t2 : (-1125899906842624 : Int).tdiv 1000 = -1125899906842 := by decide
  unfold msV msOk
  rw [t1, t2]
  clear t1 t2
  rw [Int.tdiv_one] at *
  have h1 : n.tmod 1 = 0 := Int.tmod_one n
  have HX : Hid (wrap64 (n) = n) := Lib.hid (IntWalk.wrap64_in _ hq)
  unfold I64 at h hq
  by_cases h2 : n ≤ 1125899906842
  · by_cases h3 : -1125899906842 ≤ n
    · skip
      rw [show decide (n.tmod 1 = 0 ∧ (n ≤ 1125899906842 ∧ -1125899906842 ≤ n)) = true from decide_eq_true ⟨h1, h2, h3⟩]
      rw [if_pos rfl]
      go_enter Try.func16, Try.ntmps16
      go_wp2_with fail
      refine (unitOf_0 _).mono ?_
      rintro e w1 ⟨rfl, x1⟩
      unfold unitV
      go_wp2_with fail
      go_ret2
      exact ⟨rfl, x1.alloc _⟩
    · skip
      rw [show decide (n.tmod 1 = 0 ∧ (n ≤ 1125899906842 ∧ -1125899906842 ≤ n)) = false from decide_eq_false (fun h => h3 h.2.2)]
      rw [if_neg (by decide)]
      go_enter Try.func16, Try.ntmps16
      go_wp2_with fail
      refine (unitOf_0 _).mono ?_
      rintro e w1 ⟨rfl, x1⟩
      unfold unitV
      go_wp2_with fail
      go_ret2
      exact ⟨rfl, x1.alloc _⟩
  · skip
    rw [show decide (n.tmod 1 = 0 ∧ (n ≤ 1125899906842 ∧ -1125899906842 ≤ n)) = false from decide_eq_false (fun h => h2 h.2.1)]
    rw [if_neg (by decide)]
    go_enter Try.func16, Try.ntmps16
    go_wp2_with fail
    refine (unitOf_0 _).mono ?_
    rintro e w1 ⟨rfl, x1⟩
    unfold unitV
    go_wp2_with fail
    go_ret2
    exact ⟨rfl, x1.alloc _⟩

set_option maxHeartbeats 4000000 in
set_option maxRecDepth 100000 in
theorem Ms_1 (n : Int) (w : World) (h : I64 n) :
    Calls Try.prog 16 #[.int .i64 n, .int .i64 1] w fun e w' => e = .returned (.tuple #[.int .i64 (msV n 1 1), .bool (msOk n 1 1)]) ∧ Ext w w' := by
  have hq := tdiv_range n 1 (by omega) h
  have t1 : (1125899906842624 : Int).tdiv 1 = 1125899906842624 := by decide
  have t2 : (-1125899906842624 : Int).tdiv 1 = -1125899906842624 := by decide
  unfold msV msOk
  rw [t1, t2]
  clear t1 t2
  rw [Int.tdiv_one] at *
  have h1 : n.tmod 1 = 0 := Int.tmod_one n
  have HX : Hid (wrap64 (n) = n) := Lib.hid (IntWalk.wrap64_in _ hq)
  unfold I64 at h hq
  by_cases h2 : n ≤ 1125899906842624
  · by_cases h3 : -1125899906842624 ≤ n
    · skip
      rw [show decide (n.tmod 1 = 0 ∧ (n ≤ 1125899906842624 ∧ -1125899906842624 ≤ n)) = true from decide_eq_true ⟨h1, h2, h3⟩]
      rw [if_pos rfl]
      rw [Int.mul_one]
      go_enter Try.func16, Try.ntmps16
      go_wp2_with fail
      refine (unitOf_1 _).mono ?_
      rintro e w1 ⟨rfl, x1⟩
      unfold unitV
      go_wp2_with fail
      go_ret2
      exact ⟨rfl, x1.alloc _⟩
    · skip
      rw [show decide (n.tmod 1 = 0 ∧ (n ≤ 1125899906842624 ∧ -1125899906842624 ≤ n)) = false from decide_eq_false (fun h => h3 h.2.2)]
      rw [if_neg (by decide)]
      go_enter Try.func16, Try.ntmps16
      go_wp2_with fail
      refine (unitOf_1 _).mono ?_
      rintro e w1 ⟨rfl, x1⟩
      unfold unitV
      go_wp2_with fail
      go_ret2
      exact ⟨rfl, x1.alloc _⟩
  · skip
    rw [show decide (n.tmod 1 = 0 ∧ (n ≤ 1125899906842624 ∧ -1125899906842624 ≤ n)) = false from decide_eq_false (fun h => h2 h.2.1)]
    rw [if_neg (by decide)]
    go_enter Try.func16, Try.ntmps16
    go_wp2_with fail
    refine (unitOf_1 _).mono ?_
    rintro e w1 ⟨rfl, x1⟩
    unfold unitV
    go_wp2_with fail
    go_ret2
    exact ⟨rfl, x1.alloc _⟩

set_option maxHeartbeats 4000000 in
set_option maxRecDepth 100000 in
theorem Ms_2 (n : Int) (w : World) (h : I64 n) :
    Calls Try.prog 16 #[.int .i64 n, .int .i64 2] w fun e w' => e = .returned (.tuple #[.int .i64 (msV n 1 1000), .bool (msOk n 1 1000)]) ∧ Ext w w' := by
  have hq := tdiv_range n 1000 (by omega) h
  have t1 : (1125899906842624 : Int).tdiv 1 = 1125899906842624 := by decide
  have t2 : (-1125899906842624 : Int).tdiv 1 = -1125899906842624 := by decide
  unfold msV msOk
  rw [t1, t2]
  clear t1 t2
  have HX : Hid (wrap64 (n.tdiv 1000) = n.tdiv 1000) := Lib.hid (IntWalk.wrap64_in _ hq)
  unfold I64 at h hq
  by_cases h1 : n.tmod 1000 = 0
  · skip
    by_cases h2 : n.tdiv 1000 ≤ 1125899906842624
    · by_cases h3 : -1125899906842624 ≤ n.tdiv 1000
      · skip
        rw [show decide (n.tmod 1000 = 0 ∧ (n.tdiv 1000 ≤ 1125899906842624 ∧ -1125899906842624 ≤ n.tdiv 1000)) = true from decide_eq_true ⟨h1, h2, h3⟩]
        rw [if_pos rfl]
        rw [Int.mul_one]
        have n0 : binOp .neq 2 (.int .i64 (n.tmod 1000)) (.int .i64 0) = pure (.bool false) := by
          simp only [go_sem]; rw [show (n.tmod 1000 != 0) = false from by simpa using h1]
        go_enter Try.func16, Try.ntmps16
        go_wp2_with fail
        refine (unitOf_2 _).mono ?_
        rintro e w1 ⟨rfl, x1⟩
        unfold unitV
        go_wp2_with fail
        go_ret2
        exact ⟨rfl, x1.alloc _⟩
      · skip
        rw [show decide (n.tmod 1000 = 0 ∧ (n.tdiv 1000 ≤ 1125899906842624 ∧ -1125899906842624 ≤ n.tdiv 1000)) = false from decide_eq_false (fun h => h3 h.2.2)]
        rw [if_neg (by decide)]
        have n0 : binOp .neq 2 (.int .i64 (n.tmod 1000)) (.int .i64 0) = pure (.bool false) := by
          simp only [go_sem]; rw [show (n.tmod 1000 != 0) = false from by simpa using h1]
        go_enter Try.func16, Try.ntmps16
        go_wp2_with fail
        refine (unitOf_2 _).mono ?_
        rintro e w1 ⟨rfl, x1⟩
        unfold unitV
        go_wp2_with fail
        go_ret2
        exact ⟨rfl, x1.alloc _⟩
    · skip
      rw [show decide (n.tmod 1000 = 0 ∧ (n.tdiv 1000 ≤ 1125899906842624 ∧ -1125899906842624 ≤ n.tdiv 1000)) = false from decide_eq_false (fun h => h2 h.2.1)]
      rw [if_neg (by decide)]
      have n0 : binOp .neq 2 (.int .i64 (n.tmod 1000)) (.int .i64 0) = pure (.bool false) := by
        simp only [go_sem]; rw [show (n.tmod 1000 != 0) = false from by simpa using h1]
      go_enter Try.func16, Try.ntmps16
      go_wp2_with fail
      refine (unitOf_2 _).mono ?_
      rintro e w1 ⟨rfl, x1⟩
      unfold unitV
      go_wp2_with fail
      go_ret2
      exact ⟨rfl, x1.alloc _⟩
  · skip
    rw [show decide (n.tmod 1000 = 0 ∧ (n.tdiv 1000 ≤ 1125899906842624 ∧ -1125899906842624 ≤ n.tdiv 1000)) = false from decide_eq_false (fun h => h1 h.1)]
    rw [if_neg (by decide)]
    have n0 : binOp .neq 2 (.int .i64 (n.tmod 1000)) (.int .i64 0) = pure (.bool true) := by
      simp only [go_sem]; rw [show (n.tmod 1000 != 0) = true from by simpa using h1]
    go_enter Try.func16, Try.ntmps16
    go_wp2_with fail
    refine (unitOf_2 _).mono ?_
    rintro e w1 ⟨rfl, x1⟩
    unfold unitV
    go_wp2_with fail
    go_ret2
    exact ⟨rfl, x1.alloc _⟩

set_option maxHeartbeats 4000000 in
set_option maxRecDepth 100000 in
theorem Ms_3 (n : Int) (w : World) (h : I64 n) :
    Calls Try.prog 16 #[.int .i64 n, .int .i64 3] w fun e w' => e = .returned (.tuple #[.int .i64 (msV n 1 1000000), .bool (msOk n 1 1000000)]) ∧ Ext w w' := by
  have hq := tdiv_range n 1000000 (by omega) h
  have t1 : (1125899906842624 : Int).tdiv 1 = 1125899906842624 := by decide
  have t2 : (-1125899906842624 : Int).tdiv 1 = -1125899906842624 := by decide
  unfold msV msOk
  rw [t1, t2]
  clear t1 t2
  have HX : Hid (wrap64 (n.tdiv 1000000) = n.tdiv 1000000) := Lib.hid (IntWalk.wrap64_in _ hq)
  unfold I64 at h hq
  by_cases h1 : n.tmod 1000000 = 0
  · skip
    by_cases h2 : n.tdiv 1000000 ≤ 1125899906842624
    · by_cases h3 : -1125899906842624 ≤ n.tdiv 1000000
      · skip
        rw [show decide (n.tmod 1000000 = 0 ∧ (n.tdiv 1000000 ≤ 1125899906842624 ∧ -1125899906842624 ≤ n.tdiv 1000000)) = true from decide_eq_true ⟨h1, h2, h3⟩]
        rw [if_pos rfl]
        rw [Int.mul_one]
        have n0 : binOp .neq 2 (.int .i64 (n.tmod 1000000)) (.int .i64 0) = pure (.bool false) := by
          simp only [go_sem]; rw [show (n.tmod 1000000 != 0) = false from by simpa using h1]
        go_enter Try.func16, Try.ntmps16
        go_wp2_with fail
        refine (unitOf_3 _).mono ?_
        rintro e w1 ⟨rfl, x1⟩
        unfold unitV
        go_wp2_with fail
        go_ret2
        exact ⟨rfl, x1.alloc _⟩
      · skip
        rw [show decide (n.tmod 1000000 = 0 ∧ (n.tdiv 1000000 ≤ 1125899906842624 ∧ -1125899906842624 ≤ n.tdiv 1000000)) = false from decide_eq_false (fun h => h3 h.2.2)]
        rw [if_neg (by decide)]
        have n0 : binOp .neq 2 (.int .i64 (n.tmod 1000000)) (.int .i64 0) = pure (.bool false) := by
          simp only [go_sem]; rw [show (n.tmod 1000000 != 0) = false from by simpa using h1]
        go_enter Try.func16, Try.ntmps16
        go_wp2_with fail
        refine (unitOf_3 _).mono ?_
        rintro e w1 ⟨rfl, x1⟩
        unfold unitV
        go_wp2_with fail
        go_ret2
        exact ⟨rfl, x1.alloc _⟩
    · skip
      rw [show decide (n.tmod 1000000 = 0 ∧ (n.tdiv 1000000 ≤ 1125899906842624 ∧ -1125899906842624 ≤ n.tdiv 1000000)) = false from decide_eq_false (fun h => h2 h.2.1)]
      rw [if_neg (by decide)]
      have n0 : binOp .neq 2 (.int .i64 (n.tmod 1000000)) (.int .i64 0) = pure (.bool false) := by
        simp only [go_sem]; rw [show (n.tmod 1000000 != 0) = false from by simpa using h1]
      go_enter Try.func16, Try.ntmps16
      go_wp2_with fail
      refine (unitOf_3 _).mono ?_
      rintro e w1 ⟨rfl, x1⟩
      unfold unitV
      go_wp2_with fail
      go_ret2
      exact ⟨rfl, x1.alloc _⟩
  · skip
    rw [show decide (n.tmod 1000000 = 0 ∧ (n.tdiv 1000000 ≤ 1125899906842624 ∧ -1125899906842624 ≤ n.tdiv 1000000)) = false from decide_eq_false (fun h => h1 h.1)]
    rw [if_neg (by decide)]
    have n0 : binOp .neq 2 (.int .i64 (n.tmod 1000000)) (.int .i64 0) = pure (.bool true) := by
      simp only [go_sem]; rw [show (n.tmod 1000000 != 0) = true from by simpa using h1]
    go_enter Try.func16, Try.ntmps16
    go_wp2_with fail
    refine (unitOf_3 _).mono ?_
    rintro e w1 ⟨rfl, x1⟩
    unfold unitV
    go_wp2_with fail
    go_ret2
    exact ⟨rfl, x1.alloc _⟩

set_option maxHeartbeats 4000000 in
set_option maxRecDepth 100000 in
theorem Of_0 (n : Int) (w : World) (h : I64 n) :
    Calls Try.prog 18 #[.int .i64 n, .int .i64 0] w fun e w' => e = .returned (.tuple #[.int .i64 (ofV n 1000 1), .bool (ofOk n 1000 1)]) ∧ Ext w w' := by
  have CT := fun w => isTime_any n w
  have hq := tdiv_range n 1000 (by omega) h
  have t1 : (9223372036854775807 : Int).tdiv 1 = 9223372036854775807 := by decide
  have t2 : (-9223372036854775808 : Int).tdiv 1 = -9223372036854775808 := by decide
  unfold ofV ofOk
  rw [t1, t2]
  clear t1 t2
  unfold I64 at h hq
  by_cases ht : timeB n = true
  · rw [ht] at CT
    have hd := ht
    unfold timeB at ht
    simp only [decide_eq_true_eq] at ht
    by_cases h1 : n.tmod 1000 = 0
    · skip
      by_cases h2 : n.tdiv 1000 ≤ 9223372036854775807
      · by_cases h3 : -9223372036854775808 ≤ n.tdiv 1000
        · skip
          rw [show decide (timeB n = true ∧ n.tmod 1000 = 0 ∧ (n.tdiv 1000 ≤ 9223372036854775807 ∧ -9223372036854775808 ≤ n.tdiv 1000)) = true from decide_eq_true ⟨hd, h1, h2, h3⟩]
          rw [if_pos rfl]
          rw [Int.mul_one]
          clear hd
          go_enter Try.func18, Try.ntmps18
          go_wp2_with fail
          refine (unitOf_0 _).mono ?_
          rintro e w1 ⟨rfl, x1⟩
          unfold unitV
          go_wp2_with fail
          refine (CT _).mono ?_
          rintro e w2 ⟨rfl, x2⟩
          have k1 : w2.heap[w1.heap.size]? = some (.cells #[.int .i64 1000, .int .i64 1] 51 (0, 0)) := (x2.heap (by rw [heap_size_alloc]; omega)).trans (heap_last _ _)
          have c0 : w2.cell? ⟨w1.heap.size, 0, none⟩ = some (.int .i64 1000) := (Lib.cell_of_heap k1 _).trans rfl
          have c1 : w2.cell? ⟨w1.heap.size, 1, none⟩ = some (.int .i64 1) := (Lib.cell_of_heap k1 _).trans rfl
          clear k1
          go_wp2_with fail
          go_ret2
          exact ⟨rfl, (x1.alloc _).trans x2⟩
        · exfalso; omega
      · exfalso; omega
    · skip
      rw [show decide (timeB n = true ∧ n.tmod 1000 = 0 ∧ (n.tdiv 1000 ≤ 9223372036854775807 ∧ -9223372036854775808 ≤ n.tdiv 1000)) = false from decide_eq_false (fun h => h1 h.2.1)]
      rw [if_neg (by decide)]
      clear hd
      go_enter Try.func18, Try.ntmps18
      go_wp2_with fail
      refine (unitOf_0 _).mono ?_
      rintro e w1 ⟨rfl, x1⟩
      unfold unitV
      go_wp2_with fail
      refine (CT _).mono ?_
      rintro e w2 ⟨rfl, x2⟩
      have k1 : w2.heap[w1.heap.size]? = some (.cells #[.int .i64 1000, .int .i64 1] 51 (0, 0)) := (x2.heap (by rw [heap_size_alloc]; omega)).trans (heap_last _ _)
      have c0 : w2.cell? ⟨w1.heap.size, 0, none⟩ = some (.int .i64 1000) := (Lib.cell_of_heap k1 _).trans rfl
      have c1 : w2.cell? ⟨w1.heap.size, 1, none⟩ = some (.int .i64 1) := (Lib.cell_of_heap k1 _).trans rfl
      clear k1
      go_wp2_with fail
      go_ret2
      exact ⟨rfl, (x1.alloc _).trans x2⟩
  · have hd := ht
    rw [show timeB n = false from by simpa using ht] at CT
    rw [show decide (timeB n = true ∧ n.tmod 1000 = 0 ∧ (n.tdiv 1000 ≤ 9223372036854775807 ∧ -9223372036854775808 ≤ n.tdiv 1000)) = false from decide_eq_false (fun h => ht h.1)]
    rw [if_neg (by decide)]
    clear hd ht
    go_enter Try.func18, Try.ntmps18
    go_wp2_with fail
    refine (unitOf_0 _).mono ?_
    rintro e w1 ⟨rfl, x1⟩
    unfold unitV
    go_wp2_with fail
    refine (CT _).mono ?_
    rintro e w2 ⟨rfl, x2⟩
    have k1 : w2.heap[w1.heap.size]? = some (.cells #[.int .i64 1000, .int .i64 1] 51 (0, 0)) := (x2.heap (by rw [heap_size_alloc]; omega)).trans (heap_last _ _)
    have c0 : w2.cell? ⟨w1.heap.size, 0, none⟩ = some (.int .i64 1000) := (Lib.cell_of_heap k1 _).trans rfl
    have c1 : w2.cell? ⟨w1.heap.size, 1, none⟩ = some (.int .i64 1) := (Lib.cell_of_heap k1 _).trans rfl
    clear k1
    go_wp2_with fail
    go_ret2
    exact ⟨rfl, (x1.alloc _).trans x2⟩

set_option maxHeartbeats 4000000 in
set_option maxRecDepth 100000 in
theorem Of_1 (n : Int) (w : World) (h : I64 n) :
    Calls Try.prog 18 #[.int .i64 n, .int .i64 1] w fun e w' => e = .returned (.tuple #[.int .i64 (ofV n 1 1), .bool (ofOk n 1 1)]) ∧ Ext w w' := by
  have CT := fun w => isTime_any n w
  have hq := tdiv_range n 1 (by omega) h
  have t1 : (9223372036854775807 : Int).tdiv 1 = 9223372036854775807 := by decide
  have t2 : (-9223372036854775808 : Int).tdiv 1 = -9223372036854775808 := by decide
  unfold ofV ofOk
  rw [t1, t2]
  clear t1 t2
  rw [Int.tdiv_one] at *
  have h1 : n.tmod 1 = 0 := Int.tmod_one n
  unfold I64 at h hq
  by_cases ht : timeB n = true
  · rw [ht] at CT
    have hd := ht
    unfold timeB at ht
    simp only [decide_eq_true_eq] at ht
    by_cases h2 : n ≤ 9223372036854775807
    · by_cases h3 : -9223372036854775808 ≤ n
      · skip
        rw [show decide (timeB n = true ∧ n.tmod 1 = 0 ∧ (n ≤ 9223372036854775807 ∧ -9223372036854775808 ≤ n)) = true from decide_eq_true ⟨hd, h1, h2, h3⟩]
        rw [if_pos rfl]
        rw [Int.mul_one]
        clear hd
        go_enter Try.func18, Try.ntmps18
        go_wp2_with fail
        refine (unitOf_1 _).mono ?_
        rintro e w1 ⟨rfl, x1⟩
        unfold unitV
        go_wp2_with fail
        refine (CT _).mono ?_
        rintro e w2 ⟨rfl, x2⟩
        have k1 : w2.heap[w1.heap.size]? = some (.cells #[.int .i64 1, .int .i64 1] 51 (0, 0)) := (x2.heap (by rw [heap_size_alloc]; omega)).trans (heap_last _ _)
        have c0 : w2.cell? ⟨w1.heap.size, 0, none⟩ = some (.int .i64 1) := (Lib.cell_of_heap k1 _).trans rfl
        have c1 : w2.cell? ⟨w1.heap.size, 1, none⟩ = some (.int .i64 1) := (Lib.cell_of_heap k1 _).trans rfl
        clear k1
        go_wp2_with fail
        go_ret2
        exact ⟨rfl, (x1.alloc _).trans x2⟩
      · exfalso; omega
    · exfalso; omega
  · have hd := ht
    rw [show timeB n = false from by simpa using ht] at CT
    rw [show decide (timeB n = true ∧ n.tmod 1 = 0 ∧ (n ≤ 9223372036854775807 ∧ -9223372036854775808 ≤ n)) = false from decide_eq_false (fun h => ht h.1)]
    rw [if_neg (by decide)]
    clear hd ht
    go_enter Try.func18, Try.ntmps18
    go_wp2_with fail
    refine (unitOf_1 _).mono ?_
    rintro e w1 ⟨rfl, x1⟩
    unfold unitV
    go_wp2_with fail
    refine (CT _).mono ?_
    rintro e w2 ⟨rfl, x2⟩
    have k1 : w2.heap[w1.heap.size]? = some (.cells #[.int .i64 1, .int .i64 1] 51 (0, 0)) := (x2.heap (by rw [heap_size_alloc]; omega)).trans (heap_last _ _)
    have c0 : w2.cell? ⟨w1.heap.size, 0, none⟩ = some (.int .i64 1) := (Lib.cell_of_heap k1 _).trans rfl
    have c1 : w2.cell? ⟨w1.heap.size, 1, none⟩ = some (.int .i64 1) := (Lib.cell_of_heap k1 _).trans rfl
    clear k1
    go_wp2_with fail
    go_ret2
    exact ⟨rfl, (x1.alloc _).trans x2⟩

set_option maxHeartbeats 4000000 in
set_option maxRecDepth 100000 in
theorem Of_2 (n : Int) (w : World) (h : I64 n) :
    Calls Try.prog 18 #[.int .i64 n, .int .i64 2] w fun e w' => e = .returned (.tuple #[.int .i64 (ofV n 1 1000), .bool (ofOk n 1 1000)]) ∧ Ext w w' := by
  have CT := fun w => isTime_any n w
  have hq := tdiv_range n 1 (by omega) h
  have t1 : (9223372036854775807 : Int).tdiv 1000 = 9223372036854775 := by decide
  have t2 : (-9223372036854775808 : Int).tdiv 1000 = -9223372036854775 := by decide
  unfold ofV ofOk
  rw [t1, t2]
  clear t1 t2
  rw [Int.tdiv_one] at *
  have h1 : n.tmod 1 = 0 := Int.tmod_one n
  unfold I64 at h hq
  by_cases ht : timeB n = true
  · rw [ht] at CT
    have hd := ht
    unfold timeB at ht
    simp only [decide_eq_true_eq] at ht
    by_cases h2 : n ≤ 9223372036854775
    · by_cases h3 : -9223372036854775 ≤ n
      · skip
        rw [show decide (timeB n = true ∧ n.tmod 1 = 0 ∧ (n ≤ 9223372036854775 ∧ -9223372036854775 ≤ n)) = true from decide_eq_true ⟨hd, h1, h2, h3⟩]
        rw [if_pos rfl]
        clear hd
        go_enter Try.func18, Try.ntmps18
        go_wp2_with fail
        refine (unitOf_2 _).mono ?_
        rintro e w1 ⟨rfl, x1⟩
        unfold unitV
        go_wp2_with fail
        refine (CT _).mono ?_
        rintro e w2 ⟨rfl, x2⟩
        have k1 : w2.heap[w1.heap.size]? = some (.cells #[.int .i64 1, .int .i64 1000] 51 (0, 0)) := (x2.heap (by rw [heap_size_alloc]; omega)).trans (heap_last _ _)
        have c0 : w2.cell? ⟨w1.heap.size, 0, none⟩ = some (.int .i64 1) := (Lib.cell_of_heap k1 _).trans rfl
        have c1 : w2.cell? ⟨w1.heap.size, 1, none⟩ = some (.int .i64 1000) := (Lib.cell_of_heap k1 _).trans rfl
        clear k1
        go_wp2_with fail
        go_ret2
        exact ⟨rfl, (x1.alloc _).trans x2⟩
      · exfalso; omega
    · exfalso; omega
  · have hd := ht
    rw [show timeB n = false from by simpa using ht] at CT
    rw [show decide (timeB n = true ∧ n.tmod 1 = 0 ∧ (n ≤ 9223372036854775 ∧ -9223372036854775 ≤ n)) = false from decide_eq_false (fun h => ht h.1)]
    rw [if_neg (by decide)]
    clear hd ht
    go_enter Try.func18, Try.ntmps18
    go_wp2_with fail
    refine (unitOf_2 _).mono ?_
    rintro e w1 ⟨rfl, x1⟩
    unfold unitV
    go_wp2_with fail
    refine (CT _).mono ?_
    rintro e w2 ⟨rfl, x2⟩
    have k1 : w2.heap[w1.heap.size]? = some (.cells #[.int .i64 1, .int .i64 1000] 51 (0, 0)) := (x2.heap (by rw [heap_size_alloc]; omega)).trans (heap_last _ _)
    have c0 : w2.cell? ⟨w1.heap.size, 0, none⟩ = some (.int .i64 1) := (Lib.cell_of_heap k1 _).trans rfl
    have c1 : w2.cell? ⟨w1.heap.size, 1, none⟩ = some (.int .i64 1000) := (Lib.cell_of_heap k1 _).trans rfl
    clear k1
    go_wp2_with fail
    go_ret2
    exact ⟨rfl, (x1.alloc _).trans x2⟩

set_option maxHeartbeats 4000000 in
set_option maxRecDepth 100000 in
theorem Of_3 (n : Int) (w : World) (h : I64 n) :
    Calls Try.prog 18 #[.int .i64 n, .int .i64 3] w fun e w' => e = .returned (.tuple #[.int .i64 (ofV n 1 1000000), .bool (ofOk n 1 1000000)]) ∧ Ext w w' := by
  have CT := fun w => isTime_any n w
  have hq := tdiv_range n 1 (by omega) h
  have t1 : (9223372036854775807 : Int).tdiv 1000000 = 9223372036854 := by decide
  have t2 : (-9223372036854775808 : Int).tdiv 1000000 = -9223372036854 := by decide
  unfold ofV ofOk
  rw [t1, t2]
  clear t1 t2
  rw [Int.tdiv_one] at *
  have h1 : n.tmod 1 = 0 := Int.tmod_one n
  unfold I64 at h hq
  by_cases ht : timeB n = true
  · rw [ht] at CT
    have hd := ht
    unfold timeB at ht
    simp only [decide_eq_true_eq] at ht
    by_cases h2 : n ≤ 9223372036854
    · by_cases h3 : -9223372036854 ≤ n
      · skip
        rw [show decide (timeB n = true ∧ n.tmod 1 = 0 ∧ (n ≤ 9223372036854 ∧ -9223372036854 ≤ n)) = true from decide_eq_true ⟨hd, h1, h2, h3⟩]
        rw [if_pos rfl]
        clear hd
        go_enter Try.func18, Try.ntmps18
        go_wp2_with fail
        refine (unitOf_3 _).mono ?_
        rintro e w1 ⟨rfl, x1⟩
        unfold unitV
        go_wp2_with fail
        refine (CT _).mono ?_
        rintro e w2 ⟨rfl, x2⟩
        have k1 : w2.heap[w1.heap.size]? = some (.cells #[.int .i64 1, .int .i64 1000000] 51 (0, 0)) := (x2.heap (by rw [heap_size_alloc]; omega)).trans (heap_last _ _)
        have c0 : w2.cell? ⟨w1.heap.size, 0, none⟩ = some (.int .i64 1) := (Lib.cell_of_heap k1 _).trans rfl
        have c1 : w2.cell? ⟨w1.heap.size, 1, none⟩ = some (.int .i64 1000000) := (Lib.cell_of_heap k1 _).trans rfl
        clear k1
        go_wp2_with fail
        go_ret2
        exact ⟨rfl, (x1.alloc _).trans x2⟩
      · skip
        rw [show decide (timeB n = true ∧ n.tmod 1 = 0 ∧ (n ≤ 9223372036854 ∧ -9223372036854 ≤ n)) = false from decide_eq_false (fun h => h3 h.2.2.2)]
        rw [if_neg (by decide)]
        clear hd
        go_enter Try.func18, Try.ntmps18
        go_wp2_with fail
        refine (unitOf_3 _).mono ?_
        rintro e w1 ⟨rfl, x1⟩
        unfold unitV
        go_wp2_with fail
        refine (CT _).mono ?_
        rintro e w2 ⟨rfl, x2⟩
        have k1 : w2.heap[w1.heap.size]? = some (.cells #[.int .i64 1, .int .i64 1000000] 51 (0, 0)) := (x2.heap (by rw [heap_size_alloc]; omega)).trans (heap_last _ _)
        have c0 : w2.cell? ⟨w1.heap.size, 0, none⟩ = some (.int .i64 1) := (Lib.cell_of_heap k1 _).trans rfl
        have c1 : w2.cell? ⟨w1.heap.size, 1, none⟩ = some (.int .i64 1000000) := (Lib.cell_of_heap k1 _).trans rfl
        clear k1
        go_wp2_with fail
        go_ret2
        exact ⟨rfl, (x1.alloc _).trans x2⟩
    · skip
      rw [show decide (timeB n = true ∧ n.tmod 1 = 0 ∧ (n ≤ 9223372036854 ∧ -9223372036854 ≤ n)) = false from decide_eq_false (fun h => h2 h.2.2.1)]
      rw [if_neg (by decide)]
      clear hd
      go_enter Try.func18, Try.ntmps18
      go_wp2_with fail
      refine (unitOf_3 _).mono ?_
      rintro e w1 ⟨rfl, x1⟩
      unfold unitV
      go_wp2_with fail
      refine (CT _).mono ?_
      rintro e w2 ⟨rfl, x2⟩
      have k1 : w2.heap[w1.heap.size]? = some (.cells #[.int .i64 1, .int .i64 1000000] 51 (0, 0)) := (x2.heap (by rw [heap_size_alloc]; omega)).trans (heap_last _ _)
      have c0 : w2.cell? ⟨w1.heap.size, 0, none⟩ = some (.int .i64 1) := (Lib.cell_of_heap k1 _).trans rfl
      have c1 : w2.cell? ⟨w1.heap.size, 1, none⟩ = some (.int .i64 1000000) := (Lib.cell_of_heap k1 _).trans rfl
      clear k1
      go_wp2_with fail
      go_ret2
      exact ⟨rfl, (x1.alloc _).trans x2⟩
  · have hd := ht
    rw [show timeB n = false from by simpa using ht] at CT
    rw [show decide (timeB n = true ∧ n.tmod 1 = 0 ∧ (n ≤ 9223372036854 ∧ -9223372036854 ≤ n)) = false from decide_eq_false (fun h => ht h.1)]
    rw [if_neg (by decide)]
    clear hd ht
    go_enter Try.func18, Try.ntmps18
    go_wp2_with fail
    refine (unitOf_3 _).mono ?_
    rintro e w1 ⟨rfl, x1⟩
    unfold unitV
    go_wp2_with fail
    refine (CT _).mono ?_
    rintro e w2 ⟨rfl, x2⟩
    have k1 : w2.heap[w1.heap.size]? = some (.cells #[.int .i64 1, .int .i64 1000000] 51 (0, 0)) := (x2.heap (by rw [heap_size_alloc]; omega)).trans (heap_last _ _)
    have c0 : w2.cell? ⟨w1.heap.size, 0, none⟩ = some (.int .i64 1) := (Lib.cell_of_heap k1 _).trans rfl
    have c1 : w2.cell? ⟨w1.heap.size, 1, none⟩ = some (.int .i64 1000000) := (Lib.cell_of_heap k1 _).trans rfl
    clear k1
    go_wp2_with fail
    go_ret2
    exact ⟨rfl, (x1.alloc _).trans x2⟩

end Go.Proofs.Ytgbcaiedlmejfaa

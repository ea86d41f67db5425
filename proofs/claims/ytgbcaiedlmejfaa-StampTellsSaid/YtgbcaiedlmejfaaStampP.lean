/- The walks of the document's IsTime, Ms, Of, Seconds, Time; of stamp's Ms, Of where there is no unit. -/
import Derived.Test.YtgbcaiedlmejfaaStampN
import Derived.Test.YtgbcaiedlmejfaaRefU
namespace Go.Proofs.Ytgbcaiedlmejfaa
open Go.RowKit

theorem time_in {t : Int} (h : timeB t = true) : -1125899906842624 ≤ t ∧ t ≤ 1125899906842624 := of_decide_eq_true h
set_option maxHeartbeats 4000000 in
set_option maxRecDepth 100000 in
theorem RIsTime_any (ms : Int) (w : World) :
    Calls Try.prog 30 #[.int .i64 ms] w fun e w' => e = .returned (.bool (timeB ms)) ∧ Ext w w' := by
  by_cases h1 : -1125899906842624 ≤ ms
  · by_cases h2 : ms ≤ 1125899906842624
    · have H : Hid (timeB ms = true) := decide_eq_true ⟨h1, h2⟩
      have n1 : binOp .geq 2 (.int .i64 ms) (.int .i64 (-1125899906842624)) = pure (.bool true) := by
        simp only [go_sem]; rw [show decide (ms ≥ -1125899906842624) = true from decide_eq_true h1]
      have n2 : binOp .leq 2 (.int .i64 ms) (.int .i64 1125899906842624) = pure (.bool true) := by
        simp only [go_sem]; rw [show decide (ms ≤ 1125899906842624) = true from decide_eq_true h2]
      clear h1 h2
      go_enter Try.func30, Try.ntmps30
      go_wp2_with fail
      go_ret
      exact ⟨retB H.out.symm, Ext.refl _⟩
    · have H : Hid (timeB ms = false) := decide_eq_false (fun h => h2 h.2)
      have n1 : binOp .geq 2 (.int .i64 ms) (.int .i64 (-1125899906842624)) = pure (.bool true) := by
        simp only [go_sem]; rw [show decide (ms ≥ -1125899906842624) = true from decide_eq_true h1]
      have n2 : binOp .leq 2 (.int .i64 ms) (.int .i64 1125899906842624) = pure (.bool false) := by
        simp only [go_sem]; rw [show decide (ms ≤ 1125899906842624) = false from decide_eq_false h2]
      clear h1 h2
      go_enter Try.func30, Try.ntmps30
      go_wp2_with fail
      go_ret
      exact ⟨retB H.out.symm, Ext.refl _⟩
  · have H : Hid (timeB ms = false) := decide_eq_false (fun h => h1 h.1)
    have n1 : binOp .geq 2 (.int .i64 ms) (.int .i64 (-1125899906842624)) = pure (.bool false) := by
      simp only [go_sem]; rw [show decide (ms ≥ -1125899906842624) = false from decide_eq_false h1]
    clear h1
    go_enter Try.func30, Try.ntmps30
    go_wp2_with fail
    go_ret
    exact ⟨retB H.out.symm, Ext.refl _⟩

set_option maxHeartbeats 4000000 in
set_option maxRecDepth 100000 in
theorem RSeconds_any (M S : Int) (w : World) (hM : I64 M) (hS : I64 S) :
    Calls Try.prog 13 #[decV M S] w fun e w' => e = .returned (.tuple #[.int .i64 (if scOk M S 3 && timeB (scM M S 3) then scM M S 3 else 0), .bool (scOk M S 3 && timeB (scM M S 3))]) ∧ Ext w w' := by
  have C : ∀ w, Calls Try.prog 29 #[.agg #[.int .i64 M, .int .i64 S], .int .i64 3] w fun e w' => e = .returned (.tuple #[.int .i64 (scM M S 3), .bool (scOk M S 3)]) ∧ Ext w w' := fun w => RScaled_any M S 3 w hM hS (by unfold I64; omega)
  have T := fun w => RIsTime_any (scM M S 3) w
  generalize scM M S 3 = m at *
  generalize scOk M S 3 = ok at *
  unfold decV
  clear hM hS
  have hx : Ext w (w.alloc (.cells #[.int .i64 M, .int .i64 S] 23)) := (Ext.refl _).alloc _
  cases ok
  · go_enter Try.func13, Try.ntmps13
    go_wp2_with fail
    refine (C _).mono ?_
    rintro e w1 ⟨rfl, x1⟩
    go_wp2_with fail
    go_ret2
    exact ⟨rfl, hx.trans x1⟩
  · cases ht : timeB m
    · rw [ht] at T
      clear ht
      go_enter Try.func13, Try.ntmps13
      go_wp2_with fail
      refine (C _).mono ?_
      rintro e w1 ⟨rfl, x1⟩
      go_wp2_with fail
      refine (T _).mono ?_
      rintro e w2 ⟨rfl, x2⟩
      go_wp2_with fail
      go_ret2
      exact ⟨rfl, (hx.trans x1).trans x2⟩
    · rw [ht] at T
      clear ht
      go_enter Try.func13, Try.ntmps13
      go_wp2_with fail
      refine (C _).mono ?_
      rintro e w1 ⟨rfl, x1⟩
      go_wp2_with fail
      refine (T _).mono ?_
      rintro e w2 ⟨rfl, x2⟩
      go_wp2_with fail
      go_ret2
      exact ⟨rfl, (hx.trans x1).trans x2⟩

set_option maxHeartbeats 4000000 in
set_option maxRecDepth 100000 in
theorem Ms_no (n u : Int) (w : World) (h : u < 0 ∨ 4 ≤ u) :
    Calls Try.prog 16 #[.int .i64 n, .int .i64 u] w fun e w' => e = .returned (.tuple #[.int .i64 0, .bool false]) ∧ Ext w w' := by
  go_enter Try.func16, Try.ntmps16
  go_wp2_with fail
  refine (unitOf_no u _ h).mono ?_
  rintro e w1 ⟨rfl, x1⟩
  unfold unitV
  go_wp2_with fail
  go_ret2
  exact ⟨rfl, x1.alloc _⟩

set_option maxHeartbeats 4000000 in
set_option maxRecDepth 100000 in
theorem Of_no (n u : Int) (w : World) (h : u < 0 ∨ 4 ≤ u) :
    Calls Try.prog 18 #[.int .i64 n, .int .i64 u] w fun e w' => e = .returned (.tuple #[.int .i64 0, .bool false]) ∧ Ext w w' := by
  go_enter Try.func18, Try.ntmps18
  go_wp2_with fail
  refine (unitOf_no u _ h).mono ?_
  rintro e w1 ⟨rfl, x1⟩
  unfold unitV
  go_wp2_with fail
  go_ret2
  exact ⟨rfl, x1.alloc _⟩

set_option maxHeartbeats 4000000 in
set_option maxRecDepth 100000 in
theorem RMs_0 (n : Int) (w : World) (h : I64 n) :
    Calls Try.prog 17 #[.int .i64 n, .int .i64 0] w fun e w' => e = .returned (.tuple #[.int .i64 (msV n 1000 1), .bool (msOk n 1000 1)]) ∧ Ext w w' := by
  have CT := fun w => RIsTime_any (n * 1000) w
  have t1 : (1125899906842624 : Int).tdiv 1000 = 1125899906842 := by decide
  have t2 : (-1125899906842624 : Int).tdiv 1000 = -1125899906842 := by decide
  have hok : msOk n 1000 1 = timeB (n * 1000) := by
    unfold msOk timeB
    rw [t1, t2, Int.tdiv_one, Int.tmod_one]
    by_cases hb : n ≤ 1125899906842 ∧ -1125899906842 ≤ n
    · rw [decide_eq_true ⟨rfl, hb⟩, decide_eq_true ⟨by omega, by omega⟩]
    · rw [decide_eq_false (fun h => hb h.2), decide_eq_false (by omega)]
  have hv : msV n 1000 1 = if timeB (n * 1000) then n * 1000 else 0 := by
    unfold msV
    rw [hok, Int.tdiv_one]
  rw [hv, hok]
  clear hv hok t1 t2
  unfold I64 at h
  by_cases h1 : n < -1125899906842624
  · have hb : timeB (n * 1000) = false := decide_eq_false (by omega)
    rw [hb]
    have n1 : binOp .lss 2 (.int .i64 n) (.int .i64 (-1125899906842624)) = pure (.bool true) := by
      simp only [go_sem]; rw [show decide (n < -1125899906842624) = true from decide_eq_true h1]
    clear h1 CT hb h
    go_enter Try.func17, Try.ntmps17
    go_wp2_with fail
    go_ret2
    exact ⟨rfl, Ext.refl _⟩
  · have n1 : binOp .lss 2 (.int .i64 n) (.int .i64 (-1125899906842624)) = pure (.bool false) := by
      simp only [go_sem]; rw [show decide (n < -1125899906842624) = false from decide_eq_false h1]
    by_cases h2 : n > 1125899906842624
    · have hb : timeB (n * 1000) = false := decide_eq_false (by omega)
      rw [hb]
      have n2 : binOp .gtr 2 (.int .i64 n) (.int .i64 1125899906842624) = pure (.bool true) := by
        simp only [go_sem]; rw [show decide (n > 1125899906842624) = true from decide_eq_true h2]
      clear h1 h2 CT hb h
      go_enter Try.func17, Try.ntmps17
      go_wp2_with fail
      go_ret2
      exact ⟨rfl, Ext.refl _⟩
    · have n2 : binOp .gtr 2 (.int .i64 n) (.int .i64 1125899906842624) = pure (.bool false) := by
        simp only [go_sem]; rw [show decide (n > 1125899906842624) = false from decide_eq_false h2]
      have hm : wrap64 (n * 1000) = n * 1000 := IntWalk.wrap64_in _ ⟨by omega, by omega⟩
      cases ht : timeB (n * 1000)
      · rw [ht] at CT
        clear h1 h2 ht h
        go_enter Try.func17, Try.ntmps17
        go_wp2_with fail
        refine (CT _).mono ?_
        rintro e w1 ⟨rfl, x1⟩
        go_wp2_with fail
        go_ret2
        exact ⟨rfl, x1⟩
      · rw [ht] at CT
        clear h1 h2 ht h
        go_enter Try.func17, Try.ntmps17
        go_wp2_with fail
        refine (CT _).mono ?_
        rintro e w1 ⟨rfl, x1⟩
        go_wp2_with fail
        go_ret2
        exact ⟨rfl, x1⟩

set_option maxHeartbeats 4000000 in
set_option maxRecDepth 100000 in
theorem RMs_1 (n : Int) (w : World) (h : I64 n) :
    Calls Try.prog 17 #[.int .i64 n, .int .i64 1] w fun e w' => e = .returned (.tuple #[.int .i64 (msV n 1 1), .bool (msOk n 1 1)]) ∧ Ext w w' := by
  have CT := fun w => RIsTime_any (n.tdiv 1) w
  have hq := tdiv_range n 1 (by omega) h
  have hok : msOk n 1 1 = (decide (n.tmod 1 = 0) && timeB (n.tdiv 1)) := by
    unfold msOk timeB
    rw [Int.tdiv_one, Int.tdiv_one, ← Bool.decide_and]
    congr 1
    exact propext ⟨fun h => ⟨h.1, h.2.2, h.2.1⟩, fun h => ⟨h.1, h.2.2, h.2.1⟩⟩
  have hv : msV n 1 1 = if decide (n.tmod 1 = 0) && timeB (n.tdiv 1) then n.tdiv 1 else 0 := by
    unfold msV
    rw [hok, Int.mul_one]
  rw [hv, hok]
  clear hv hok
  have HX : Hid (wrap64 (n.tdiv 1) = n.tdiv 1) := Lib.hid (IntWalk.wrap64_in _ hq)
  unfold I64 at h hq
  rw [Int.tdiv_one] at *
  by_cases h1 : n.tmod 1 = 0
  · rw [decide_eq_true h1]
    cases ht : timeB n
    · rw [ht] at CT
      clear ht
      go_enter Try.func17, Try.ntmps17
      go_wp2_with fail
      refine (CT _).mono ?_
      rintro e w1 ⟨rfl, x1⟩
      go_wp2_with fail
      go_ret2
      exact ⟨rfl, x1⟩
    · rw [ht] at CT
      clear ht
      go_enter Try.func17, Try.ntmps17
      go_wp2_with fail
      refine (CT _).mono ?_
      rintro e w1 ⟨rfl, x1⟩
      go_wp2_with fail
      go_ret2
      exact ⟨rfl, x1⟩
  · exact absurd (Int.tmod_one n) h1

set_option maxHeartbeats 4000000 in
set_option maxRecDepth 100000 in
theorem RMs_2 (n : Int) (w : World) (h : I64 n) :
    Calls Try.prog 17 #[.int .i64 n, .int .i64 2] w fun e w' => e = .returned (.tuple #[.int .i64 (msV n 1 1000), .bool (msOk n 1 1000)]) ∧ Ext w w' := by
  have CT := fun w => RIsTime_any (n.tdiv 1000) w
  have hq := tdiv_range n 1000 (by omega) h
  have hok : msOk n 1 1000 = (decide (n.tmod 1000 = 0) && timeB (n.tdiv 1000)) := by
    unfold msOk timeB
    rw [Int.tdiv_one, Int.tdiv_one, ← Bool.decide_and]
    congr 1
    exact propext ⟨fun h => ⟨h.1, h.2.2, h.2.1⟩, fun h => ⟨h.1, h.2.2, h.2.1⟩⟩
  have hv : msV n 1 1000 = if decide (n.tmod 1000 = 0) && timeB (n.tdiv 1000) then n.tdiv 1000 else 0 := by
    unfold msV
    rw [hok, Int.mul_one]
  rw [hv, hok]
  clear hv hok
  have HX : Hid (wrap64 (n.tdiv 1000) = n.tdiv 1000) := Lib.hid (IntWalk.wrap64_in _ hq)
  unfold I64 at h hq

  by_cases h1 : n.tmod 1000 = 0
  · rw [decide_eq_true h1]
    cases ht : timeB (n.tdiv 1000)
    · rw [ht] at CT
      clear ht
      go_enter Try.func17, Try.ntmps17
      go_wp2_with fail
      refine (CT _).mono ?_
      rintro e w1 ⟨rfl, x1⟩
      go_wp2_with fail
      go_ret2
      exact ⟨rfl, x1⟩
    · rw [ht] at CT
      clear ht
      go_enter Try.func17, Try.ntmps17
      go_wp2_with fail
      refine (CT _).mono ?_
      rintro e w1 ⟨rfl, x1⟩
      go_wp2_with fail
      go_ret2
      exact ⟨rfl, x1⟩
  · rw [decide_eq_false h1]
    go_enter Try.func17, Try.ntmps17
    go_wp2_with fail
    go_ret2
    exact ⟨rfl, Ext.refl _⟩

set_option maxHeartbeats 4000000 in
set_option maxRecDepth 100000 in
theorem RMs_3 (n : Int) (w : World) (h : I64 n) :
    Calls Try.prog 17 #[.int .i64 n, .int .i64 3] w fun e w' => e = .returned (.tuple #[.int .i64 (msV n 1 1000000), .bool (msOk n 1 1000000)]) ∧ Ext w w' := by
  have CT := fun w => RIsTime_any (n.tdiv 1000000) w
  have hq := tdiv_range n 1000000 (by omega) h
  have hok : msOk n 1 1000000 = (decide (n.tmod 1000000 = 0) && timeB (n.tdiv 1000000)) := by
    unfold msOk timeB
    rw [Int.tdiv_one, Int.tdiv_one, ← Bool.decide_and]
    congr 1
    exact propext ⟨fun h => ⟨h.1, h.2.2, h.2.1⟩, fun h => ⟨h.1, h.2.2, h.2.1⟩⟩
  have hv : msV n 1 1000000 = if decide (n.tmod 1000000 = 0) && timeB (n.tdiv 1000000) then n.tdiv 1000000 else 0 := by
    unfold msV
    rw [hok, Int.mul_one]
  rw [hv, hok]
  clear hv hok
  have HX : Hid (wrap64 (n.tdiv 1000000) = n.tdiv 1000000) := Lib.hid (IntWalk.wrap64_in _ hq)
  unfold I64 at h hq

  by_cases h1 : n.tmod 1000000 = 0
  · rw [decide_eq_true h1]
    cases ht : timeB (n.tdiv 1000000)
    · rw [ht] at CT
      clear ht
      go_enter Try.func17, Try.ntmps17
      go_wp2_with fail
      refine (CT _).mono ?_
      rintro e w1 ⟨rfl, x1⟩
      go_wp2_with fail
      go_ret2
      exact ⟨rfl, x1⟩
    · rw [ht] at CT
      clear ht
      go_enter Try.func17, Try.ntmps17
      go_wp2_with fail
      refine (CT _).mono ?_
      rintro e w1 ⟨rfl, x1⟩
      go_wp2_with fail
      go_ret2
      exact ⟨rfl, x1⟩
  · rw [decide_eq_false h1]
    go_enter Try.func17, Try.ntmps17
    go_wp2_with fail
    go_ret2
    exact ⟨rfl, Ext.refl _⟩

set_option maxHeartbeats 4000000 in
set_option maxRecDepth 100000 in
theorem RMs_no (n u : Int) (w : World) (h : u ≠ 0 ∧ u ≠ 1 ∧ u ≠ 2 ∧ u ≠ 3) :
    Calls Try.prog 17 #[.int .i64 n, .int .i64 u] w fun e w' => e = .returned (.tuple #[.int .i64 0, .bool false]) ∧ Ext w w' := by
  obtain ⟨h0, h1, h2, h3⟩ := h
  go_enter Try.func17, Try.ntmps17
  go_wp2_with fail
  go_ret2
  exact ⟨rfl, Ext.refl _⟩

set_option maxHeartbeats 4000000 in
set_option maxRecDepth 100000 in
theorem ROf_0 (n : Int) (w : World) (h : I64 n) :
    Calls Try.prog 19 #[.int .i64 n, .int .i64 0] w fun e w' => e = .returned (.tuple #[.int .i64 (ofV n 1000 1), .bool (ofOk n 1000 1)]) ∧ Ext w w' := by
  have CT := fun w => RIsTime_any n w
  have t1 : (9223372036854775807 : Int).tdiv 1 = 9223372036854775807 := by decide
  have t2 : (-9223372036854775808 : Int).tdiv 1 = -9223372036854775808 := by decide
  unfold ofV ofOk
  rw [t1, t2]
  clear t1 t2
  have hq := tdiv_range n 1000 (by omega) h
  have HX : Hid (wrap64 (n.tdiv 1000) = n.tdiv 1000) := Lib.hid (IntWalk.wrap64_in _ hq)
  unfold I64 at hq
  unfold I64 at h
  by_cases ht : timeB n = true
  · have hi := time_in ht
    by_cases h1 : n.tmod 1000 = 0
    · rw [show decide (timeB n = true ∧ n.tmod 1000 = 0 ∧ (n.tdiv 1000 ≤ 9223372036854775807 ∧ -9223372036854775808 ≤ n.tdiv 1000)) = true from decide_eq_true ⟨ht, h1, by omega, by omega⟩, if_pos rfl, Int.mul_one]
      rw [ht] at CT
      clear ht hi
      go_enter Try.func19, Try.ntmps19
      go_wp2_with fail
      refine (CT _).mono ?_
      rintro e w1 ⟨rfl, x1⟩
      go_wp2_with fail
      go_ret2
      exact ⟨rfl, x1⟩
    · rw [show decide (timeB n = true ∧ n.tmod 1000 = 0 ∧ (n.tdiv 1000 ≤ 9223372036854775807 ∧ -9223372036854775808 ≤ n.tdiv 1000)) = false from decide_eq_false (fun h => h1 h.2.1), if_neg (by decide)]
      rw [ht] at CT
      clear ht hi
      go_enter Try.func19, Try.ntmps19
      go_wp2_with fail
      refine (CT _).mono ?_
      rintro e w1 ⟨rfl, x1⟩
      go_wp2_with fail
      go_ret2
      exact ⟨rfl, x1⟩
  · rw [show decide (timeB n = true ∧ n.tmod 1000 = 0 ∧ (n.tdiv 1000 ≤ 9223372036854775807 ∧ -9223372036854775808 ≤ n.tdiv 1000)) = false from decide_eq_false (fun h => ht h.1), if_neg (by decide)]
    rw [show timeB n = false from by simpa using ht] at CT
    clear ht
    go_enter Try.func19, Try.ntmps19
    go_wp2_with fail
    refine (CT _).mono ?_
    rintro e w1 ⟨rfl, x1⟩
    go_wp2_with fail
    go_ret2
    exact ⟨rfl, x1⟩

set_option maxHeartbeats 4000000 in
set_option maxRecDepth 100000 in
theorem ROf_1 (n : Int) (w : World) (h : I64 n) :
    Calls Try.prog 19 #[.int .i64 n, .int .i64 1] w fun e w' => e = .returned (.tuple #[.int .i64 (ofV n 1 1), .bool (ofOk n 1 1)]) ∧ Ext w w' := by
  have CT := fun w => RIsTime_any n w
  have t1 : (9223372036854775807 : Int).tdiv 1 = 9223372036854775807 := by decide
  have t2 : (-9223372036854775808 : Int).tdiv 1 = -9223372036854775808 := by decide
  unfold ofV ofOk
  rw [t1, t2]
  clear t1 t2
  rw [Int.tdiv_one, Int.tmod_one]
  unfold I64 at h
  by_cases ht : timeB n = true
  · have hi := time_in ht
    rw [show decide (timeB n = true ∧ (0 : Int) = 0 ∧ (n ≤ 9223372036854775807 ∧ -9223372036854775808 ≤ n)) = true from decide_eq_true ⟨ht, rfl, by omega, by omega⟩, if_pos rfl, Int.mul_one]
    rw [ht] at CT
    have hm : wrap64 (n * 1) = n * 1 := IntWalk.wrap64_in _ ⟨by omega, by omega⟩
    clear ht hi
    go_enter Try.func19, Try.ntmps19
    go_wp2_with fail
    refine (CT _).mono ?_
    rintro e w1 ⟨rfl, x1⟩
    go_wp2_with fail
    go_ret2
    exact ⟨rfl, x1⟩
  · rw [show decide (timeB n = true ∧ (0 : Int) = 0 ∧ (n ≤ 9223372036854775807 ∧ -9223372036854775808 ≤ n)) = false from decide_eq_false (fun h => ht h.1), if_neg (by decide)]
    rw [show timeB n = false from by simpa using ht] at CT
    clear ht
    go_enter Try.func19, Try.ntmps19
    go_wp2_with fail
    refine (CT _).mono ?_
    rintro e w1 ⟨rfl, x1⟩
    go_wp2_with fail
    go_ret2
    exact ⟨rfl, x1⟩

set_option maxHeartbeats 4000000 in
set_option maxRecDepth 100000 in
theorem ROf_2 (n : Int) (w : World) (h : I64 n) :
    Calls Try.prog 19 #[.int .i64 n, .int .i64 2] w fun e w' => e = .returned (.tuple #[.int .i64 (ofV n 1 1000), .bool (ofOk n 1 1000)]) ∧ Ext w w' := by
  have CT := fun w => RIsTime_any n w
  have t1 : (9223372036854775807 : Int).tdiv 1000 = 9223372036854775 := by decide
  have t2 : (-9223372036854775808 : Int).tdiv 1000 = -9223372036854775 := by decide
  unfold ofV ofOk
  rw [t1, t2]
  clear t1 t2
  rw [Int.tdiv_one, Int.tmod_one]
  unfold I64 at h
  by_cases ht : timeB n = true
  · have hi := time_in ht
    rw [show decide (timeB n = true ∧ (0 : Int) = 0 ∧ (n ≤ 9223372036854775 ∧ -9223372036854775 ≤ n)) = true from decide_eq_true ⟨ht, rfl, by omega, by omega⟩, if_pos rfl]
    rw [ht] at CT
    have hm : wrap64 (n * 1000) = n * 1000 := IntWalk.wrap64_in _ ⟨by omega, by omega⟩
    clear ht hi
    go_enter Try.func19, Try.ntmps19
    go_wp2_with fail
    refine (CT _).mono ?_
    rintro e w1 ⟨rfl, x1⟩
    go_wp2_with fail
    go_ret2
    exact ⟨congrArg (fun z => Ending.returned (.tuple #[.int .i64 z, .bool true])) hm, x1⟩
  · rw [show decide (timeB n = true ∧ (0 : Int) = 0 ∧ (n ≤ 9223372036854775 ∧ -9223372036854775 ≤ n)) = false from decide_eq_false (fun h => ht h.1), if_neg (by decide)]
    rw [show timeB n = false from by simpa using ht] at CT
    clear ht
    go_enter Try.func19, Try.ntmps19
    go_wp2_with fail
    refine (CT _).mono ?_
    rintro e w1 ⟨rfl, x1⟩
    go_wp2_with fail
    go_ret2
    exact ⟨rfl, x1⟩

set_option maxHeartbeats 4000000 in
set_option maxRecDepth 100000 in
theorem ROf_3 (n : Int) (w : World) (h : I64 n) :
    Calls Try.prog 19 #[.int .i64 n, .int .i64 3] w fun e w' => e = .returned (.tuple #[.int .i64 (ofV n 1 1000000), .bool (ofOk n 1 1000000)]) ∧ Ext w w' := by
  have CT := fun w => RIsTime_any n w
  have t1 : (9223372036854775807 : Int).tdiv 1000000 = 9223372036854 := by decide
  have t2 : (-9223372036854775808 : Int).tdiv 1000000 = -9223372036854 := by decide
  unfold ofV ofOk
  rw [t1, t2]
  clear t1 t2
  rw [Int.tdiv_one, Int.tmod_one]
  unfold I64 at h
  by_cases ht : timeB n = true
  · have hi := time_in ht
    by_cases h1 : n < -9223372036854
    · rw [show decide (timeB n = true ∧ (0 : Int) = 0 ∧ (n ≤ 9223372036854 ∧ -9223372036854 ≤ n)) = false from decide_eq_false (fun h => by omega), if_neg (by decide)]
      rw [ht] at CT
      clear ht hi
      have n1 : binOp .lss 2 (.int .i64 n) (.int .i64 (-9223372036854)) = pure (.bool true) := by
        simp only [go_sem]; rw [show decide (n < -9223372036854) = true from decide_eq_true h1]
      clear h1
      go_enter Try.func19, Try.ntmps19
      go_wp2_with fail
      refine (CT _).mono ?_
      rintro e w1 ⟨rfl, x1⟩
      go_wp2_with fail
      go_ret2
      exact ⟨rfl, x1⟩
    · have n1 : binOp .lss 2 (.int .i64 n) (.int .i64 (-9223372036854)) = pure (.bool false) := by
        simp only [go_sem]; rw [show decide (n < -9223372036854) = false from decide_eq_false h1]
      by_cases h2 : n > 9223372036854
      · rw [show decide (timeB n = true ∧ (0 : Int) = 0 ∧ (n ≤ 9223372036854 ∧ -9223372036854 ≤ n)) = false from decide_eq_false (fun h => by omega), if_neg (by decide)]
        rw [ht] at CT
        clear ht hi
        have n2 : binOp .gtr 2 (.int .i64 n) (.int .i64 9223372036854) = pure (.bool true) := by
          simp only [go_sem]; rw [show decide (n > 9223372036854) = true from decide_eq_true h2]
        clear h1 h2
        go_enter Try.func19, Try.ntmps19
        go_wp2_with fail
        refine (CT _).mono ?_
        rintro e w1 ⟨rfl, x1⟩
        go_wp2_with fail
        go_ret2
        exact ⟨rfl, x1⟩
      · rw [show decide (timeB n = true ∧ (0 : Int) = 0 ∧ (n ≤ 9223372036854 ∧ -9223372036854 ≤ n)) = true from decide_eq_true ⟨ht, rfl, by omega, by omega⟩, if_pos rfl]
        rw [ht] at CT
        clear ht hi
        have n2 : binOp .gtr 2 (.int .i64 n) (.int .i64 9223372036854) = pure (.bool false) := by
          simp only [go_sem]; rw [show decide (n > 9223372036854) = false from decide_eq_false h2]
        have hm : wrap64 (n * 1000000) = n * 1000000 := IntWalk.wrap64_in _ ⟨by omega, by omega⟩
        clear h1 h2
        go_enter Try.func19, Try.ntmps19
        go_wp2_with fail
        refine (CT _).mono ?_
        rintro e w1 ⟨rfl, x1⟩
        go_wp2_with fail
        go_ret2
        exact ⟨congrArg (fun z => Ending.returned (.tuple #[.int .i64 z, .bool true])) hm, x1⟩
  · rw [show decide (timeB n = true ∧ (0 : Int) = 0 ∧ (n ≤ 9223372036854 ∧ -9223372036854 ≤ n)) = false from decide_eq_false (fun h => ht h.1), if_neg (by decide)]
    rw [show timeB n = false from by simpa using ht] at CT
    clear ht
    go_enter Try.func19, Try.ntmps19
    go_wp2_with fail
    refine (CT _).mono ?_
    rintro e w1 ⟨rfl, x1⟩
    go_wp2_with fail
    go_ret2
    exact ⟨rfl, x1⟩

set_option maxHeartbeats 4000000 in
set_option maxRecDepth 100000 in
theorem ROf_no (n u : Int) (w : World) (h : u ≠ 0 ∧ u ≠ 1 ∧ u ≠ 2 ∧ u ≠ 3) :
    Calls Try.prog 19 #[.int .i64 n, .int .i64 u] w fun e w' => e = .returned (.tuple #[.int .i64 0, .bool false]) ∧ Ext w w' := by
  obtain ⟨h0, h1, h2, h3⟩ := h
  have CT := fun w => RIsTime_any n w
  cases ht : timeB n
  · rw [ht] at CT
    clear ht
    go_enter Try.func19, Try.ntmps19
    go_wp2_with fail
    refine (CT _).mono ?_
    rintro e w1 ⟨rfl, x1⟩
    go_wp2_with fail
    go_ret2
    exact ⟨rfl, x1⟩
  · rw [ht] at CT
    clear ht
    go_enter Try.func19, Try.ntmps19
    go_wp2_with fail
    refine (CT _).mono ?_
    rintro e w1 ⟨rfl, x1⟩
    go_wp2_with fail
    go_ret2
    exact ⟨rfl, x1⟩

set_option maxHeartbeats 4000000 in
set_option maxRecDepth 100000 in
theorem RTime_any (ms : Int) (w : World) (h : I64 ms) :
    Calls Try.prog 15 #[.int .i64 ms] w fun e w' => e = .returned (.string (strN (textL ms))) ∧ Ext w w' := by
  have T := fun w => RIsTime_any ms w
  by_cases ht : timeB ms = true
  · rw [ht] at T
    have hT : Hid (textL ms = printL (canZ ms 3).1.1 (canZ ms 3).1.2) := if_pos ht
    obtain ⟨g, i⟩ := canZ_is_good ms 3
    obtain ⟨⟨g1, g2⟩, _⟩ := good_of g
    have C1 : ∀ w, Calls Try.prog 21 #[.int .i64 ms, .int .i64 3] w fun e w' => e = .returned (.tuple #[.agg #[.int .i64 (canZ ms 3).1.1, .int .i64 (canZ ms 3).1.2], .bool (canZ ms 3).2]) ∧ Ext w w' := fun w => Norm_any ms 3 w h (by omega)
    have C2 : ∀ w, Calls Try.prog 22 #[.agg #[.int .i64 (canZ ms 3).1.1, .int .i64 (canZ ms 3).1.2]] w fun e w' => e = .returned (.string (strN (printL (canZ ms 3).1.1 (canZ ms 3).1.2))) ∧ Ext w w' := fun w => RPrint_any _ _ w i (by unfold I64; omega)
    rw [hT.out]
    generalize strN (printL (canZ ms 3).1.1 (canZ ms 3).1.2) = R at *
    generalize (canZ ms 3).1.1 = M at *
    generalize (canZ ms 3).1.2 = S at *
    generalize (canZ ms 3).2 = ok at *
    clear ht hT g i g1 g2
    go_enter Try.func15, Try.ntmps15
    go_wp2_with fail
    refine (T _).mono ?_
    rintro e w1 ⟨rfl, x1⟩
    go_wp2_with fail
    refine (C1 _).mono ?_
    rintro e w2 ⟨rfl, x2⟩
    go_wp2_with fail
    refine (C2 _).mono ?_
    rintro e w3 ⟨rfl, x3⟩
    go_wp2_with fail
    go_ret
    exact ⟨rfl, ((x1.trans x2).alloc _).trans x3⟩
  · rw [show timeB ms = false from by simpa using ht] at T
    have hT : textL ms = [] := if_neg ht
    rw [hT, strN_nil]
    clear ht hT
    go_enter Try.func15, Try.ntmps15
    go_wp2_with fail
    refine (T _).mono ?_
    rintro e w1 ⟨rfl, x1⟩
    go_wp2_with fail
    go_ret
    exact ⟨rfl, x1⟩
end Go.Proofs.Ytgbcaiedlmejfaa

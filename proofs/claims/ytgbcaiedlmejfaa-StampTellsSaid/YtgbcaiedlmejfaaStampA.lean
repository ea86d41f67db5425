/- The walks of stamp.isTime, unitOf, Ms, Of, Seconds. -/
import Derived.Test.YtgbcaiedlmejfaaNumJ
namespace Go.Proofs.Ytgbcaiedlmejfaa
open Go.RowKit

/-- Whether milliseconds are a time. -/
def timeB (ms : Int) : Bool := decide (-1125899906842624 ≤ ms ∧ ms ≤ 1125899906842624)

set_option maxRecDepth 100000 in
theorem isTime_any (ms : Int) (w : World) :
    Calls Try.prog 28 #[.int .i64 ms] w fun e w' => e = .returned (.bool (timeB ms)) ∧ Ext w w' := by
  by_cases h1 : -1125899906842624 ≤ ms
  · by_cases h2 : ms ≤ 1125899906842624
    · have H : Hid (timeB ms = true) := decide_eq_true ⟨h1, h2⟩
      have n1 : binOp .geq 2 (.int .i64 ms) (.int .i64 (-1125899906842624)) = pure (.bool true) := by
        simp only [go_sem]; rw [show decide (ms ≥ -1125899906842624) = true from decide_eq_true h1]
      have n2 : binOp .leq 2 (.int .i64 ms) (.int .i64 1125899906842624) = pure (.bool true) := by
        simp only [go_sem]; rw [show decide (ms ≤ 1125899906842624) = true from decide_eq_true h2]
      clear h1 h2
      go_enter Try.func28, Try.ntmps28
      go_wp2_with fail
      go_ret
      exact ⟨retB H.out.symm, Ext.refl _⟩
    · have H : Hid (timeB ms = false) := decide_eq_false (fun h => h2 h.2)
      have n1 : binOp .geq 2 (.int .i64 ms) (.int .i64 (-1125899906842624)) = pure (.bool true) := by
        simp only [go_sem]; rw [show decide (ms ≥ -1125899906842624) = true from decide_eq_true h1]
      have n2 : binOp .leq 2 (.int .i64 ms) (.int .i64 1125899906842624) = pure (.bool false) := by
        simp only [go_sem]; rw [show decide (ms ≤ 1125899906842624) = false from decide_eq_false h2]
      clear h1 h2
      go_enter Try.func28, Try.ntmps28
      go_wp2_with fail
      go_ret
      exact ⟨retB H.out.symm, Ext.refl _⟩
  · have H : Hid (timeB ms = false) := decide_eq_false (fun h => h1 h.1)
    have n1 : binOp .geq 2 (.int .i64 ms) (.int .i64 (-1125899906842624)) = pure (.bool false) := by
      simp only [go_sem]; rw [show decide (ms ≥ -1125899906842624) = false from decide_eq_false h1]
    clear h1
    go_enter Try.func28, Try.ntmps28
    go_wp2_with fail
    go_ret
    exact ⟨retB H.out.symm, Ext.refl _⟩

/-- A unit as a value: how many milliseconds it is, how many of it are one. -/
def unitV (L P : Int) : Value := .agg #[.int .i64 L, .int .i64 P]
theorem unitOf_no (n : Int) (w : World) (h : n < 0 ∨ 4 ≤ n) :
    Calls Try.prog 33 #[.int .i64 n] w fun e w' => e = .returned (.tuple #[unitV 0 0, .bool false]) ∧ Ext w w' := by
  rcases h with h | h
  · go_enter Try.func33, Try.ntmps33
    go_wp2_with fail
    exact bodyPost_ret (v := .tuple #[unitV 0 0, .bool false]) (by simp [results, Try.results33, go_sem, unitV]) rfl ⟨rfl, ((Ext.refl _).alloc _).alloc _⟩
  · go_enter Try.func33, Try.ntmps33
    go_wp2_with fail
    exact bodyPost_ret (v := .tuple #[unitV 0 0, .bool false]) (by simp [results, Try.results33, go_sem, unitV]) rfl ⟨rfl, ((Ext.refl _).alloc _).alloc _⟩
theorem unitOf_0 (w : World) :
    Calls Try.prog 33 #[.int .i64 0] w fun e w' => e = .returned (.tuple #[unitV 1000 1, .bool true]) ∧ Ext w w' := by
  go_enter Try.func33, Try.ntmps33
  go_wp2_with fail
  exact bodyPost_ret (v := .tuple #[unitV 1000 1, .bool true]) (by simp [results, Try.results33, go_sem, unitV]) rfl ⟨rfl, ((Ext.refl _).alloc _).alloc _⟩
theorem unitOf_1 (w : World) :
    Calls Try.prog 33 #[.int .i64 1] w fun e w' => e = .returned (.tuple #[unitV 1 1, .bool true]) ∧ Ext w w' := by
  go_enter Try.func33, Try.ntmps33
  go_wp2_with fail
  exact bodyPost_ret (v := .tuple #[unitV 1 1, .bool true]) (by simp [results, Try.results33, go_sem, unitV]) rfl ⟨rfl, ((Ext.refl _).alloc _).alloc _⟩
theorem unitOf_2 (w : World) :
    Calls Try.prog 33 #[.int .i64 2] w fun e w' => e = .returned (.tuple #[unitV 1 1000, .bool true]) ∧ Ext w w' := by
  go_enter Try.func33, Try.ntmps33
  go_wp2_with fail
  exact bodyPost_ret (v := .tuple #[unitV 1 1000, .bool true]) (by simp [results, Try.results33, go_sem, unitV]) rfl ⟨rfl, ((Ext.refl _).alloc _).alloc _⟩
theorem unitOf_3 (w : World) :
    Calls Try.prog 33 #[.int .i64 3] w fun e w' => e = .returned (.tuple #[unitV 1 1000000, .bool true]) ∧ Ext w w' := by
  go_enter Try.func33, Try.ntmps33
  go_wp2_with fail
  exact bodyPost_ret (v := .tuple #[unitV 1 1000000, .bool true]) (by simp [results, Try.results33, go_sem, unitV]) rfl ⟨rfl, ((Ext.refl _).alloc _).alloc _⟩
end Go.Proofs.Ytgbcaiedlmejfaa

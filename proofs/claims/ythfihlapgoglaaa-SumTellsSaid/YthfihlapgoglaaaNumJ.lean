/- The walk of sum.Scaled. -/
import Derived.Test.YthfihlapgoglaaaNumI
namespace Go.Proofs.Ythfihlapgoglaaa
open Go.RowKit

/-- Whether a decimal may be told with so many digits. -/
def scIn (M S s : Int) : Bool := goodB M S && (decide (S ≤ s) && decide (s ≤ 18))
def scOk (M S s : Int) : Bool := scIn M S s && decOk (scN M S s) 0
def scM (M S s : Int) : Int := if scIn M S s then decMv (decide (M < 0)) (scN M S s) 0 else 0

set_option maxHeartbeats 20000000 in
set_option maxRecDepth 100000 in
theorem Scaled_any (M S s : Int) (w : World) (hM : I64 M) (hS : I64 S) (hs : I64 s) :
    Calls Try.prog 15 #[decV M S, .int .i64 s] w fun e w' => e = .returned (.tuple #[.int .i64 (scM M S s), .bool (scOk M S s)]) ∧ Ext w w' := by
  have G := fun w => Good_any M S w hM hS
  unfold decV at G ⊢
  have hx : Ext w (w.alloc (.cells #[.int .i64 M, .int .i64 S] 25)) := (Ext.refl _).alloc _
  have h1 : DecIn w.heap.size M S (w.alloc (.cells #[.int .i64 M, .int .i64 S] 25)) := heap_last _ _
  unfold I64 at hM hS hs
  by_cases hg : goodB M S = true
  · rw [hg] at G
    obtain ⟨a1, a2, a3⟩ := good_range hg
    by_cases h2 : S ≤ s
    · by_cases h3 : s ≤ 18
      · have HR : Hid (scM M S s = decMv (decide (M < 0)) (scN M S s) 0 ∧ scOk M S s = decOk (scN M S s) 0) := by
          have : scIn M S s = true := by unfold scIn; rw [hg, decide_eq_true h2, decide_eq_true h3]; rfl
          unfold Hid scM scOk; rw [this]; exact ⟨rfl, rfl⟩
        have C1 := fun w => numberOf_sc M S s w (by omega) a1 h2 h3
        have l := scN_lt M S s (by omega) a1 h3
        have C2 : ∀ w, Calls Try.prog 26 #[.agg #[.bool (decide (M < 0)), .int .u64 (wd (scN M S s) 0 : Int), .int .u64 (wd (scN M S s) 1 : Int), .int .u64 (wd (scN M S s) 2 : Int), .int .u64 (wd (scN M S s) 3 : Int), .int .i64 0]] w fun e w' => e = .returned (.tuple #[.agg #[.int .i64 (decMv (decide (M < 0)) (scN M S s) 0), .int .i64 (decSv (scN M S s) 0)], .bool (decOk (scN M S s) 0)]) ∧ Ext w w' := fun w => dec_any _ (scN M S s) 0 w (by unfold W256; omega) (by omega)
        generalize scN M S s = N at *
        generalize decMv (decide (M < 0)) N 0 = R at *
        generalize decSv N 0 = R2 at *
        generalize decOk N 0 = ok at *
        generalize decide (M < 0) = n at *
        clear l hg
        have n1 : binOp .lss 3 (.int .i64 s) (.int .i64 S) = pure (.bool false) := by
          simp only [go_sem]; rw [show decide (s < S) = false from by simp only [decide_eq_false_iff_not]; omega]
        have n2 : binOp .gtr 3 (.int .i64 s) (.int .i64 18) = pure (.bool false) := by
          simp only [go_sem]; rw [show decide (s > 18) = false from by simp only [decide_eq_false_iff_not]; omega]
        go_enter Try.func15, Try.ntmps15
        go_wp2_with fail
        refine (G _).mono ?_
        rintro e w1 ⟨rfl, x1⟩
        replace h1 := h1.ext x1
        replace hx := hx.trans x1
        obtain ⟨c0, c1⟩ := h1.cells
        go_wp2_with fail
        refine (C1 _).mono ?_
        rintro e w2 ⟨rfl, x2⟩
        replace hx := hx.trans x2
        clear c0 c1
        go_wp2_with fail
        refine (C2 _).mono ?_
        rintro e w3 ⟨rfl, x3⟩
        replace hx := (hx.alloc _).trans x3
        go_wp2_with fail
        go_ret2
        obtain ⟨r1, r2⟩ := HR.out
        rw [r1, r2]
        exact ⟨rfl, hx.alloc _⟩
      · have HR : Hid (scM M S s = 0 ∧ scOk M S s = false) := by
          have : scIn M S s = false := by unfold scIn; simp; intro _ _; omega
          unfold Hid scM scOk; rw [this]; exact ⟨rfl, rfl⟩
        have n1 : binOp .lss 3 (.int .i64 s) (.int .i64 S) = pure (.bool false) := by
          simp only [go_sem]; rw [show decide (s < S) = false from by simp only [decide_eq_false_iff_not]; omega]
        have n2 : binOp .gtr 3 (.int .i64 s) (.int .i64 18) = pure (.bool true) := by
          simp only [go_sem]; rw [show decide (s > 18) = true from by simp only [decide_eq_true_eq]; omega]
        go_enter Try.func15, Try.ntmps15
        go_wp2_with fail
        refine (G _).mono ?_
        rintro e w1 ⟨rfl, x1⟩
        replace h1 := h1.ext x1
        replace hx := hx.trans x1
        obtain ⟨c0, c1⟩ := h1.cells
        go_wp2_with fail
        go_ret2
        obtain ⟨r1, r2⟩ := HR.out
        rw [r1, r2]
        exact ⟨rfl, hx⟩
    · have HR : Hid (scM M S s = 0 ∧ scOk M S s = false) := by
        have : scIn M S s = false := by unfold scIn; simp; intro _ h; omega
        unfold Hid scM scOk; rw [this]; exact ⟨rfl, rfl⟩
      have n1 : binOp .lss 3 (.int .i64 s) (.int .i64 S) = pure (.bool true) := by
        simp only [go_sem]; rw [show decide (s < S) = true from by simp only [decide_eq_true_eq]; omega]
      go_enter Try.func15, Try.ntmps15
      go_wp2_with fail
      refine (G _).mono ?_
      rintro e w1 ⟨rfl, x1⟩
      replace h1 := h1.ext x1
      replace hx := hx.trans x1
      obtain ⟨c0, c1⟩ := h1.cells
      go_wp2_with fail
      go_ret2
      obtain ⟨r1, r2⟩ := HR.out
      rw [r1, r2]
      exact ⟨rfl, hx⟩
  · replace hg : goodB M S = false := by simpa using hg
    rw [hg] at G
    have HR : Hid (scM M S s = 0 ∧ scOk M S s = false) := by
      have : scIn M S s = false := by unfold scIn; simp; rw [hg]; simp
      unfold Hid scM scOk; rw [this]; exact ⟨rfl, rfl⟩
    go_enter Try.func15, Try.ntmps15
    go_wp2_with fail
    refine (G _).mono ?_
    rintro e w1 ⟨rfl, x1⟩
    replace h1 := h1.ext x1
    replace hx := hx.trans x1
    obtain ⟨c0, c1⟩ := h1.cells
    go_wp2_with fail
    go_ret2
    obtain ⟨r1, r2⟩ := HR.out
    rw [r1, r2]
    exact ⟨rfl, hx⟩
end Go.Proofs.Ythfihlapgoglaaa

/- The walks of the document's Good, Neg. -/
import Derived.Test.YthfihlapgoglaaaRefE
namespace Go.Proofs.Ythfihlapgoglaaa
open Go.RowKit

set_option maxHeartbeats 2000000 in
set_option maxRecDepth 100000 in
theorem RGood_any (M S : Int) (w : World) (hM : I64 M) (hS : I64 S) :
    Calls Try.prog 31 #[decV M S] w fun e w' => e = .returned (.bool (goodB M S)) ∧ Ext w w' := by
  unfold decV
  obtain ⟨hM1, hM2⟩ := hM
  obtain ⟨hS1, hS2⟩ := hS
  by_cases h0 : 0 ≤ S
  · by_cases h1 : S ≤ 18
    · by_cases h2 : M = -9223372036854775808
      · have hb : goodB M S = false := by unfold goodB; simp [h2]
        have H := Lib.hid hb
        have n2 : binOp .neq 2 (.int .i64 M) (.int .i64 (-9223372036854775808)) = pure (.bool false) := by
          rw [h2]; rfl
        clear h2 hb
        go_enter Try.func31, Try.ntmps31
        go_wp2_with fail
        go_ret
        exact ⟨retB H.out.symm, (Ext.refl _).alloc _⟩
      · have n2 : binOp .neq 2 (.int .i64 M) (.int .i64 (-9223372036854775808)) = pure (.bool true) := by
          simp only [go_sem]; rw [show (M != -9223372036854775808) = true from by simpa using h2]
        by_cases h3 : S = 0
        · have hb : goodB M S = true := by unfold goodB; exact decide_eq_true ⟨h0, h1, h2, .inl h3⟩
          have H := Lib.hid hb
          clear h2 hb
          subst h3
          go_enter Try.func31, Try.ntmps31
          go_wp2_with fail
          go_ret
          exact ⟨retB H.out.symm, (Ext.refl _).alloc _⟩
        · by_cases h4 : M.tmod 10 = 0
          · have hb : goodB M S = false := by unfold goodB; simp [h3, h4]
            have H := Lib.hid hb
            clear h2 hb
            go_enter Try.func31, Try.ntmps31
            go_wp2_with fail
            go_ret
            exact ⟨retB (by rw [H.out]; simpa using h3), (Ext.refl _).alloc _⟩
          · have hb : goodB M S = true := by unfold goodB; exact decide_eq_true ⟨h0, h1, h2, .inr h4⟩
            have H := Lib.hid hb
            clear h2 hb
            go_enter Try.func31, Try.ntmps31
            go_wp2_with fail
            go_ret
            exact ⟨retB (by rw [H.out]; simp [h4]), (Ext.refl _).alloc _⟩
    · have hb : goodB M S = false := by unfold goodB; simp [h1]
      have H := Lib.hid hb
      clear hb
      go_enter Try.func31, Try.ntmps31
      go_wp2_with fail
      go_ret
      exact ⟨retB H.out.symm, (Ext.refl _).alloc _⟩
  · have hb : goodB M S = false := by unfold goodB; simp [h0]
    have H := Lib.hid hb
    clear hb
    go_enter Try.func31, Try.ntmps31
    go_wp2_with fail
    go_ret
    exact ⟨retB H.out.symm, (Ext.refl _).alloc _⟩

set_option maxHeartbeats 4000000 in
set_option maxRecDepth 100000 in
theorem RNeg_any (M S : Int) (w : World) (hM : I64 M) (hS : I64 S) :
    Calls Try.prog 20 #[decV M S] w fun e w' => e = .returned (decV (-cM M S) (cS M S)) ∧ Ext w w' := by
  have C := fun w => RGood_any M S w hM hS
  have hm := cM_range M S hM
  unfold decV at *
  have hx : Ext w ((w.alloc (.cells #[.int .i64 M, .int .i64 S] 25)).alloc (.cells #[.int .i64 0, .int .i64 0] 25)) := ((Ext.refl _).alloc _).alloc _
  have h1 : DecIn w.heap.size M S ((w.alloc (.cells #[.int .i64 M, .int .i64 S] 25)).alloc (.cells #[.int .i64 0, .int .i64 0] 25)) := heap_at2a _ _ _
  have h2 : DecIn (w.heap.size + 1) 0 0 ((w.alloc (.cells #[.int .i64 M, .int .i64 S] 25)).alloc (.cells #[.int .i64 0, .int .i64 0] 25)) := heap_at2b _ _ _
  by_cases g : goodB M S = true
  · have e1 : cM M S = M := by unfold cM; rw [if_pos g]
    have e2 : cS M S = S := by unfold cS; rw [if_pos g]
    rw [e1] at hm
    rw [e1, e2]
    rw [g] at C
    clear e1 e2 g hM hS
    go_enter Try.func20, Try.ntmps20
    go_wp2_with fail
    refine (C _).mono ?_
    rintro e w1 ⟨rfl, x1⟩
    replace h1 := h1.ext x1
    replace h2 := h2.ext x1
    obtain ⟨c0, c1⟩ := h1.cells
    obtain ⟨d0, d1⟩ := h2.cells
    obtain ⟨g0, g1⟩ := h2.free
    go_wp2_with fail
    refine bodyPost_ret (v := decV (-M) S) ?_ rfl ⟨rfl, ext_setDec (hx.trans x1) (Nat.le_succ _) _ _⟩
    obtain ⟨e0, e1⟩ := (h2.stored (-M) S).cells
    change (results Try.f20 _).run Try.prog (setDec w1 (w.heap.size + 1) (-M) S) = .ok _ (setDec w1 (w.heap.size + 1) (-M) S)
    generalize setDec w1 (w.heap.size + 1) (-M) S = W' at *
    simp [results, Try.results20, go_sem, e0, e1, decV]
  · have e1 : cM M S = 0 := by unfold cM; rw [if_neg g]
    have e2 : cS M S = 0 := by unfold cS; rw [if_neg g]
    rw [e1, e2]
    rw [show goodB M S = false from by simpa using g] at C
    clear e1 e2 g hM hS hm
    go_enter Try.func20, Try.ntmps20
    go_wp2_with fail
    refine (C _).mono ?_
    rintro e w1 ⟨rfl, x1⟩
    replace h2 := h2.ext x1
    obtain ⟨d0, d1⟩ := h2.cells
    obtain ⟨g0, g1⟩ := h2.free
    clear h1
    go_wp2_with fail
    refine bodyPost_ret (v := decV (-0) 0) ?_ rfl ⟨rfl, ext_setDec (hx.trans x1) (Nat.le_succ _) _ _⟩
    obtain ⟨e0, e1⟩ := (h2.stored 0 0).cells
    change (results Try.f20 _).run Try.prog (setDec w1 (w.heap.size + 1) 0 0) = .ok _ (setDec w1 (w.heap.size + 1) 0 0)
    generalize setDec w1 (w.heap.size + 1) 0 0 = W' at *
    simp [results, Try.results20, go_sem, e0, e1, decV]
end Go.Proofs.Ythfihlapgoglaaa

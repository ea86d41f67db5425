/- The walks of the document's Good, Neg. -/
import Derived.Test.YtiancppdcfahaaaDoorRefE
namespace Go.Proofs.YtiancppdcfahaaaDoor
open Go.RowKit

set_option maxHeartbeats 2000000 in
set_option maxRecDepth 100000 in
theorem RGood_any (M S : Int) (w : World) (hM : I64 M) (hS : I64 S) :
    Calls Tryd.prog 14 #[decV M S] w fun e w' => e = .returned (.bool (goodB M S)) ∧ Ext w w' := by
  unfold decV
  obtain ⟨hM1, hM2⟩ := hM
  obtain ⟨hS1, hS2⟩ := hS
  by_cases h0 : 0 ≤ S
  · by_cases h1 : S ≤ 18
    · by_cases h2 : M = -9223372036854775808
      · have hb : goodB M S = false := by unfold goodB; simp [h2]
        have H := Lib.hid hb
        have n2 : binOp .neq 2 (.int .i64 M) (.int .i64 (-9223372036854775808)) = pure (.bool false) := by
          rw [h2]; rfl
        clear h2 hb
        go_enter Tryd.func14, Tryd.ntmps14
        go_wp2_with fail
        go_ret
        exact ⟨retB H.out.symm, (Ext.refl _).alloc _⟩
      · have n2 : binOp .neq 2 (.int .i64 M) (.int .i64 (-9223372036854775808)) = pure (.bool true) := by
          simp only [go_sem]; rw [show (M != -9223372036854775808) = true from by simpa using h2]
        by_cases h3 : S = 0
        · have hb : goodB M S = true := by unfold goodB; exact decide_eq_true ⟨h0, h1, h2, .inl h3⟩
          have H := Lib.hid hb
          clear h2 hb
          subst h3
          go_enter Tryd.func14, Tryd.ntmps14
          go_wp2_with fail
          go_ret
          exact ⟨retB H.out.symm, (Ext.refl _).alloc _⟩
        · by_cases h4 : M.tmod 10 = 0
          · have hb : goodB M S = false := by unfold goodB; simp [h3, h4]
            have H := Lib.hid hb
            clear h2 hb
            go_enter Tryd.func14, Tryd.ntmps14
            go_wp2_with fail
            go_ret
            exact ⟨retB (by rw [H.out]; simpa using h3), (Ext.refl _).alloc _⟩
          · have hb : goodB M S = true := by unfold goodB; exact decide_eq_true ⟨h0, h1, h2, .inr h4⟩
            have H := Lib.hid hb
            clear h2 hb
            go_enter Tryd.func14, Tryd.ntmps14
            go_wp2_with fail
            go_ret
            exact ⟨retB (by rw [H.out]; simp [h4]), (Ext.refl _).alloc _⟩
    · have hb : goodB M S = false := by unfold goodB; simp [h1]
      have H := Lib.hid hb
      clear hb
      go_enter Tryd.func14, Tryd.ntmps14
      go_wp2_with fail
      go_ret
      exact ⟨retB H.out.symm, (Ext.refl _).alloc _⟩
  · have hb : goodB M S = false := by unfold goodB; simp [h0]
    have H := Lib.hid hb
    clear hb
    go_enter Tryd.func14, Tryd.ntmps14
    go_wp2_with fail
    go_ret
    exact ⟨retB H.out.symm, (Ext.refl _).alloc _⟩

end Go.Proofs.YtiancppdcfahaaaDoor

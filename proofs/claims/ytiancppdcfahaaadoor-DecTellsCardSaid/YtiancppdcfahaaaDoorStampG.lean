/- The walks of stamp.Int, Uint. -/
import Derived.Test.YtiancppdcfahaaaDoorStampF
namespace Go.Proofs.YtiancppdcfahaaaDoor
open Go.RowKit

theorem whole_1 : wholeV { data := #[45, 49, 50] } true = (-12, 0, 0) := by decide
theorem whole_2 : wholeV { data := #[49, 120] } true = (0, 11, 1) := by decide
theorem whole_3 : wholeV { data := #[45, 49] } false = (0, 11, 0) := by decide
theorem prL_fuel : ∀ (f m k S : Nat) (acc : List Nat), m + (S + 1 - k) ≤ f → prL m k S acc = prL m k S acc := fun _ _ _ _ _ _ => rfl
theorem text_1500 : textL 1500 = [49, 46, 53] := by
  have h : canZ 1500 3 = ((15, 1), true) := by decide
  unfold textL
  rw [if_pos (by decide), h]
  unfold printL
  rw [if_pos (by decide), if_neg (by decide)]
  show prL 15 0 1 [] = _
  rw [prL_step _ (by omega), prL_step _ (by omega), prL_stop _ (by omega)]
  decide
theorem text_none (ms : Int) (h : timeB ms = false) : textL ms = [] := by unfold textL; rw [h]; rfl
end Go.Proofs.YtiancppdcfahaaaDoor

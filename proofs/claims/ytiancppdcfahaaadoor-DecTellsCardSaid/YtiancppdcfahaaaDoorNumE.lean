/- The walk of number.dec. -/
import Derived.Test.YtiancppdcfahaaaDoorNumD
import Derived.Deep.RegionWith
import Derived.Laws.StructEq
import Derived.ChangeKeysEq
namespace Go.Proofs.YtiancppdcfahaaaDoor
open Go.RowKit

/-- A number without noughts behind, as long as there are digits behind the point. -/
def strip : Nat → Nat → Nat × Nat
  | N, 0 => (N, 0)
  | N, s + 1 => if N % 10 = 0 then strip (N / 10) s else (N, s + 1)
def decOk (N s : Nat) : Bool := decide ((strip N s).2 ≤ 18 ∧ (strip N s).1 ≤ 9223372036854775807)
/-- The decimal that a number is. -/
def decMv (neg : Bool) (N s : Nat) : Int := if decOk N s then (if neg then -((strip N s).1 : Int) else ((strip N s).1 : Int)) else 0
def decSv (N s : Nat) : Int := if decOk N s then ((strip N s).2 : Int) else 0
theorem strip_zero : ∀ s, strip 0 s = (0, 0)
  | 0 => rfl
  | s + 1 => by unfold strip; rw [if_pos rfl]; exact strip_zero s
theorem strip_le : ∀ (s N : Nat), (strip N s).1 ≤ N ∧ (strip N s).2 ≤ s
  | 0, N => ⟨Nat.le_refl _, Nat.le_refl _⟩
  | s + 1, N => by
    unfold strip
    split
    · have := strip_le s (N / 10)
      exact ⟨by omega, by omega⟩
    · exact ⟨Nat.le_refl _, Nat.le_refl _⟩

/-- How many digits stand behind the point of the number in block b. -/
def scaleOf (w : World) (b : Nat) : Nat := match w.cell? ⟨b, 5, none⟩ with | some v => (intOf v).toNat | none => 0
end Go.Proofs.YtiancppdcfahaaaDoor

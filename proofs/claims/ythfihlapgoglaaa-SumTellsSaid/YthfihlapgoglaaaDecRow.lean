/- A decimal that comes in by value, opened. -/
import Derived.Test.YthfihlapgoglaaaRow
import Derived.Lib.SmallJoins
namespace Go.Proofs.Ythfihlapgoglaaa
open Go.ChangeShapes Go.WideShapes Go.ChangeAt Go.RowKit

theorem openDec {H : Type} {enc : TypeId × Value → H} {W : World} {base : Nat} {spare : Nat → Bool} {held : Bool} {r : Reach} {b0 : Nat} {v : Value} {d : DataW H} {p : List MemPlace}
    (hv : Value.okWide Try.prog W r b0 25 v) (h : DataW.Trod enc Try.prog W base spare held 25 v d p) :
    ∃ M S : Int, v = .agg #[.int .i64 M, .int .i64 S] ∧ p = [] ∧ (-9223372036854775808 ≤ M ∧ M ≤ 9223372036854775807) ∧ (-9223372036854775808 ≤ S ∧ S ≤ 9223372036854775807) := by
  obtain ⟨v0, v1, y0, y1, n, rfl, rfl, rfl, h0, h1⟩ := Joins.open_agg2 Try.underlying25 (by kernel_rfl) (by kernel_rfl) hv h
  obtain ⟨M, e0, z0, w0⟩ := DataW.trod_int Try.underlying2 h0
  obtain ⟨S, e1, z1, w1⟩ := DataW.trod_int Try.underlying3 h1
  injection e0 with e0 _
  injection e1 with e1 _
  subst e0 e1
  rw [z0, z1]
  exact ⟨M, S, rfl, rfl, bounds_i64 w0, bounds_i64 w1⟩
end Go.Proofs.Ythfihlapgoglaaa

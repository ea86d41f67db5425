/- The row's step for a law that leaves what was there as it is. -/
import Derived.Test.YtiancppdcfahaaaDoorBase
import Derived.ProofKit
import Derived.OpenShut
import Derived.ShutString
import Derived.SliceStrings
import Derived.Lib.SmallJoins
namespace Go.Proofs.YtiancppdcfahaaaDoor
open Go.ChangeShapes Go.WideShapes Go.ChangeAt Go.RowKit
open Go.ChangeMaps (open_string shut_string)

theorem ownP : ownKnob Tryd.prog.godebug = none := by kernel_rfl
theorem laidOutP : laidOutB Tryd.prog = true := by kernel_rfl

/-- What was there stands; what is new may be anything. -/
theorem post_ext {H : Type} {enc : TypeId × Value → H} {P : Program} {f : Func} {s : ChangeSpec} {apart fresh handsOn : Bool} {W W' : World} {args : Array Value} {v : Value} {ds gs : List (DataW H)} {before pa pv : List MemPlace}
    (hW : DataW.Whole enc P f.params.toList s.vars apart W args.toList ds gs before)
    (hres : ∀ (b : Nat) (sp : Nat → Bool) (hd : Bool), DataW.TrodAll enc P W' b sp hd f.resultTypes.toList (v.resultList f.resultTypes.size) (s.fn H (ds ++ gs)).results [])
    (hargs : DataW.TrodAll enc P W' 0 (fun b => decide (b < W.heap.size)) true f.params.toList args.toList (s.fn H (ds ++ gs)).args pa)
    (hvars : DataW.TrodVars enc P W' (fun b => decide (b < W.heap.size)) s.vars (s.fn H (ds ++ gs)).vars pv)
    (hx : Ext W W') : s.post enc P f apart fresh handsOn false W args v W' :=
  ⟨ds, gs, before, [], pa, pv, hW, hres _ _ _, hargs, hvars, Below.frame hx _, fun h => by cases h⟩

end Go.Proofs.YtiancppdcfahaaaDoor

namespace Go.Proofs.YtiancppdcfahaaaDoor
open Go.ChangeShapes Go.WideShapes Go.ChangeAt Go.RowKit

theorem openDec {H : Type} {enc : TypeId × Value → H} {W : World} {base : Nat} {spare : Nat → Bool} {held : Bool} {r : Reach} {b0 : Nat} {v : Value} {d : DataW H} {p : List MemPlace}
    (hv : Value.okWide Tryd.prog W r b0 23 v) (h : DataW.Trod enc Tryd.prog W base spare held 23 v d p) :
    ∃ M S : Int, v = .agg #[.int .i64 M, .int .i64 S] ∧ p = [] ∧ (-9223372036854775808 ≤ M ∧ M ≤ 9223372036854775807) ∧ (-9223372036854775808 ≤ S ∧ S ≤ 9223372036854775807) := by
  obtain ⟨v0, v1, y0, y1, n, rfl, rfl, rfl, h0, h1⟩ := Joins.open_agg2 Tryd.underlying23 (by kernel_rfl) (by kernel_rfl) hv h
  obtain ⟨M, e0, z0, w0⟩ := DataW.trod_int Tryd.underlying2 h0
  obtain ⟨S, e1, z1, w1⟩ := DataW.trod_int Tryd.underlying3 h1
  injection e0 with e0 _
  injection e1 with e1 _
  subst e0 e1
  rw [z0, z1]
  exact ⟨M, S, rfl, rfl, bounds_i64 w0, bounds_i64 w1⟩
end Go.Proofs.YtiancppdcfahaaaDoor

/-
  No cell of these rows narrows 'for every input' (looked for: loops, veiled, ifaces, maps, wideKeys, modest, calm, conditions, laid).
  DERIVED. THE GIVEN ROWS OF THIS SEAT. 5 by the template 'for every input the law returns true; each argument reads behind the call as it read before'; 0 by the template 'total and deterministic' (their statements: YtjjnmefihdjglaaTotals.lean).
  GIVEN WITH THE SEED: the statements are not yours to turn. If you find one false, say at which input.
  Laid BY PROGRAM, IN A SANDBOX (cutbox-rows.mjs): the forced cells as the released guide's own fill.sh prints them over the translation 5044d42b69b8a9d9… (all of the seat's roots in one cut). By AI agents, Wed Nov 11 2026. No macro, syntax, notation, axiom, sorry.
-/
import Derived.Test.YtjjnmefihdjglaaChecked
import GoSem.Claim
import GoSem.ClaimJoined
import GoSem.ClaimMapViews
import Derived.JoinedTies
import Derived.KernelRfl
namespace Go.Proofs.Ytjjnmefihdjglaa
/- THE CELL 'sum', in the pinned program and in every row, IS THE sha256 OF THE DUMP (.gsa) THAT YtjjnmefihdjglaaProg.lean LOADS. Nothing in Lean hashes anything: it is a label: what it is worth is what the hold of that sum in a sandbox is worth. -/
noncomputable def Try.pinned : Pinned := { name := "ytjjnmefihdjglaa", sum := "5044d42b69b8a9d96c08ba822d71dc666dcc59aa85f9895ffe0cfa10386ec977", checked := Try.checked }
namespace Rows
def none {H : Type} : Left H := { results := [], args := [] }

/-- 'polyglotlaw9.FamilySorts': WHATEVER THE INPUT: true; the input reads as it did. -/
def familySortsSpec : ChangeSpec := { name := "familySorts", fn := fun _ => fun
  | [d1, d2] => { results := [.lit (.bool true)], args := [d1, d2] }
  | _ => none }
def familySortsRow : OpenClaim := { program := "ytjjnmefihdjglaa", sum := "5044d42b69b8a9d96c08ba822d71dc666dcc59aa85f9895ffe0cfa10386ec977", func := "polyglot/polyglotlaw9.FamilySorts", spec := "familySorts", inPlace := ["internal/bytealg.abigen_runtime_cmpstring", "math/bits.Add64"], unfollowed := true, recurses := true, apart := false }
def FamilySortsSaid : Prop := familySortsRow.holds Try.pinned (OpenSpec.ofChange familySortsSpec)

/-- ITS FALSE NEIGHBOUR: 'it returns false'. Refute it at one input. -/
def familySortsWrong : ChangeSpec := { name := "familySorts", fn := fun _ => fun
  | [d1, d2] => { results := [.lit (.bool false)], args := [d1, d2] }
  | _ => none }
def FamilySortsWrongFalsely : Prop := familySortsRow.holds Try.pinned (OpenSpec.ofChange familySortsWrong)

/-- 'polyglotlaw9.FamilySeries': WHATEVER THE INPUT: true; the input reads as it did. -/
def familySeriesSpec : ChangeSpec := { name := "familySeries", fn := fun _ => fun
  | [d1, d2] => { results := [.lit (.bool true)], args := [d1, d2] }
  | _ => none }
def familySeriesRow : OpenClaim := { program := "ytjjnmefihdjglaa", sum := "5044d42b69b8a9d96c08ba822d71dc666dcc59aa85f9895ffe0cfa10386ec977", func := "polyglot/polyglotlaw9.FamilySeries", spec := "familySeries", inPlace := ["internal/bytealg.abigen_runtime_cmpstring", "math/bits.Add64"], unfollowed := true, recurses := true, apart := false }
def FamilySeriesSaid : Prop := familySeriesRow.holds Try.pinned (OpenSpec.ofChange familySeriesSpec)

/-- ITS FALSE NEIGHBOUR: 'it returns false'. Refute it at one input. -/
def familySeriesWrong : ChangeSpec := { name := "familySeries", fn := fun _ => fun
  | [d1, d2] => { results := [.lit (.bool false)], args := [d1, d2] }
  | _ => none }
def FamilySeriesWrongFalsely : Prop := familySeriesRow.holds Try.pinned (OpenSpec.ofChange familySeriesWrong)

/-- 'polyglotlaw9.FamilyKinds': WHATEVER THE INPUT: true; the input reads as it did. -/
def familyKindsSpec : ChangeSpec := { name := "familyKinds", fn := fun _ => fun
  | [d1, d2] => { results := [.lit (.bool true)], args := [d1, d2] }
  | _ => none }
def familyKindsRow : OpenClaim := { program := "ytjjnmefihdjglaa", sum := "5044d42b69b8a9d96c08ba822d71dc666dcc59aa85f9895ffe0cfa10386ec977", func := "polyglot/polyglotlaw9.FamilyKinds", spec := "familyKinds", inPlace := ["internal/bytealg.abigen_runtime_cmpstring", "math/bits.Add64"], unfollowed := true, recurses := true, apart := false }
def FamilyKindsSaid : Prop := familyKindsRow.holds Try.pinned (OpenSpec.ofChange familyKindsSpec)

/-- ITS FALSE NEIGHBOUR: 'it returns false'. Refute it at one input. -/
def familyKindsWrong : ChangeSpec := { name := "familyKinds", fn := fun _ => fun
  | [d1, d2] => { results := [.lit (.bool false)], args := [d1, d2] }
  | _ => none }
def FamilyKindsWrongFalsely : Prop := familyKindsRow.holds Try.pinned (OpenSpec.ofChange familyKindsWrong)

/-- 'polyglotlaw9.FamilyHeads': WHATEVER THE INPUT: true; the input reads as it did. -/
def familyHeadsSpec : ChangeSpec := { name := "familyHeads", fn := fun _ => fun
  | [d1, d2, d3] => { results := [.lit (.bool true)], args := [d1, d2, d3] }
  | _ => none }
def familyHeadsRow : OpenClaim := { program := "ytjjnmefihdjglaa", sum := "5044d42b69b8a9d96c08ba822d71dc666dcc59aa85f9895ffe0cfa10386ec977", func := "polyglot/polyglotlaw9.FamilyHeads", spec := "familyHeads", inPlace := ["internal/bytealg.abigen_runtime_cmpstring", "math/bits.Add64"], unfollowed := true, recurses := true, apart := false }
def FamilyHeadsSaid : Prop := familyHeadsRow.holds Try.pinned (OpenSpec.ofChange familyHeadsSpec)

/-- ITS FALSE NEIGHBOUR: 'it returns false'. Refute it at one input. -/
def familyHeadsWrong : ChangeSpec := { name := "familyHeads", fn := fun _ => fun
  | [d1, d2, d3] => { results := [.lit (.bool false)], args := [d1, d2, d3] }
  | _ => none }
def FamilyHeadsWrongFalsely : Prop := familyHeadsRow.holds Try.pinned (OpenSpec.ofChange familyHeadsWrong)

/-- 'polyglotlaw10.BatchLimits': WHATEVER THE INPUT: true; the input reads as it did. -/
def batchLimitsSpec : ChangeSpec := { name := "batchLimits", fn := fun _ => fun
  | [d1, d2, d3] => { results := [.lit (.bool true)], args := [d1, d2, d3] }
  | _ => none }
def batchLimitsRow : OpenClaim := { program := "ytjjnmefihdjglaa", sum := "5044d42b69b8a9d96c08ba822d71dc666dcc59aa85f9895ffe0cfa10386ec977", func := "polyglot/polyglotlaw10.BatchLimits", spec := "batchLimits", inPlace := ["internal/bytealg.abigen_runtime_cmpstring", "math/bits.Add64"], unfollowed := true, recurses := true, apart := false }
def BatchLimitsSaid : Prop := batchLimitsRow.holds Try.pinned (OpenSpec.ofChange batchLimitsSpec)

/-- ITS FALSE NEIGHBOUR: 'it returns false'. Refute it at one input. -/
def batchLimitsWrong : ChangeSpec := { name := "batchLimits", fn := fun _ => fun
  | [d1, d2, d3] => { results := [.lit (.bool false)], args := [d1, d2, d3] }
  | _ => none }
def BatchLimitsWrongFalsely : Prop := batchLimitsRow.holds Try.pinned (OpenSpec.ofChange batchLimitsWrong)

/- THE SECOND FORM. 'bulk': how many values and letters a reading holds, each counted each time it is reached (what is shared counts as often as it is met; a slice's spare places count too). A statement '..UptoSaid' is the law's where the arguments, and the package variables that the reading takes, are together of bulk at most 1048576: NARROWER than '..Said'. Prove '..Said' where nothing that the law and all that it calls make is longer than what came in: it says more and counts as full. Else prove '..UptoSaid'. A law counts once. -/
mutual
def uptoBulk {H : Type} : DataW H → Nat
  | .lit (.string bytes) => bytes.length + 1
  | .lit _ => 1
  | .nil => 1
  | .ptr d => uptoBulk d + 1
  | .slice elems spare => uptoBulkAll elems + uptoBulkAll spare + 1
  | .agg parts => uptoBulkAll parts + 1
  | .iface _ d => uptoBulk d + 1
  | .map entries => uptoBulkEntries entries + 1
  | .held _ => 1
def uptoBulkAll {H : Type} : List (DataW H) → Nat
  | [] => 0
  | d :: r => uptoBulk d + uptoBulkAll r
def uptoBulkEntries {H : Type} : List (Lit × DataW H) → Nat
  | [] => 0
  | x :: r => uptoBulkEntry x + uptoBulkEntries r
def uptoBulkEntry {H : Type} : Lit × DataW H → Nat
  | (.string bytes, d) => bytes.length + uptoBulk d + 1
  | (_, d) => uptoBulk d + 1
 end
def uptoSmall : (H : Type) → List (DataW H) → Bool := fun _ ds => decide (uptoBulkAll ds ≤ 1048576)
def OpenSpec.upto (s : _root_.Go.ChangeSpec) : _root_.Go.OpenSpec := { _root_.Go.OpenSpec.ofChange s with cond := some uptoSmall }

/-- 'polyglotlaw9.FamilySorts', WHERE WHAT IT READS IS OF BULK AT MOST 1048576: true; the input reads as it did. -/
def familySortsUptoRow : OpenClaim := { program := "ytjjnmefihdjglaa", sum := "5044d42b69b8a9d96c08ba822d71dc666dcc59aa85f9895ffe0cfa10386ec977", func := "polyglot/polyglotlaw9.FamilySorts", spec := "familySorts", inPlace := ["internal/bytealg.abigen_runtime_cmpstring", "math/bits.Add64"], unfollowed := true, recurses := true, apart := false, narrowed := true }
def FamilySortsUptoSaid : Prop := familySortsUptoRow.holds Try.pinned (OpenSpec.upto familySortsSpec)

/-- 'polyglotlaw9.FamilySeries', WHERE WHAT IT READS IS OF BULK AT MOST 1048576: true; the input reads as it did. -/
def familySeriesUptoRow : OpenClaim := { program := "ytjjnmefihdjglaa", sum := "5044d42b69b8a9d96c08ba822d71dc666dcc59aa85f9895ffe0cfa10386ec977", func := "polyglot/polyglotlaw9.FamilySeries", spec := "familySeries", inPlace := ["internal/bytealg.abigen_runtime_cmpstring", "math/bits.Add64"], unfollowed := true, recurses := true, apart := false, narrowed := true }
def FamilySeriesUptoSaid : Prop := familySeriesUptoRow.holds Try.pinned (OpenSpec.upto familySeriesSpec)

/-- 'polyglotlaw9.FamilyKinds', WHERE WHAT IT READS IS OF BULK AT MOST 1048576: true; the input reads as it did. -/
def familyKindsUptoRow : OpenClaim := { program := "ytjjnmefihdjglaa", sum := "5044d42b69b8a9d96c08ba822d71dc666dcc59aa85f9895ffe0cfa10386ec977", func := "polyglot/polyglotlaw9.FamilyKinds", spec := "familyKinds", inPlace := ["internal/bytealg.abigen_runtime_cmpstring", "math/bits.Add64"], unfollowed := true, recurses := true, apart := false, narrowed := true }
def FamilyKindsUptoSaid : Prop := familyKindsUptoRow.holds Try.pinned (OpenSpec.upto familyKindsSpec)

/-- 'polyglotlaw9.FamilyHeads', WHERE WHAT IT READS IS OF BULK AT MOST 1048576: true; the input reads as it did. -/
def familyHeadsUptoRow : OpenClaim := { program := "ytjjnmefihdjglaa", sum := "5044d42b69b8a9d96c08ba822d71dc666dcc59aa85f9895ffe0cfa10386ec977", func := "polyglot/polyglotlaw9.FamilyHeads", spec := "familyHeads", inPlace := ["internal/bytealg.abigen_runtime_cmpstring", "math/bits.Add64"], unfollowed := true, recurses := true, apart := false, narrowed := true }
def FamilyHeadsUptoSaid : Prop := familyHeadsUptoRow.holds Try.pinned (OpenSpec.upto familyHeadsSpec)

/-- 'polyglotlaw10.BatchLimits', WHERE WHAT IT READS IS OF BULK AT MOST 1048576: true; the input reads as it did. -/
def batchLimitsUptoRow : OpenClaim := { program := "ytjjnmefihdjglaa", sum := "5044d42b69b8a9d96c08ba822d71dc666dcc59aa85f9895ffe0cfa10386ec977", func := "polyglot/polyglotlaw10.BatchLimits", spec := "batchLimits", inPlace := ["internal/bytealg.abigen_runtime_cmpstring", "math/bits.Add64"], unfollowed := true, recurses := true, apart := false, narrowed := true }
def BatchLimitsUptoSaid : Prop := batchLimitsUptoRow.holds Try.pinned (OpenSpec.upto batchLimitsSpec)

end Rows
end Go.Proofs.Ytjjnmefihdjglaa

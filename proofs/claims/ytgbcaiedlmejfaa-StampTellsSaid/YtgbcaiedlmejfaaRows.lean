/-
  No cell of these rows narrows 'for every input' (looked for: loops, veiled, ifaces, maps, wideKeys, modest, calm, conditions, laid).
  DERIVED. THE GIVEN ROWS OF THIS SEAT. 4 by the template 'for every input the law returns true; each argument reads behind the call as it read before'; 0 by the template 'total and deterministic' (their statements: YtgbcaiedlmejfaaTotals.lean).
  GIVEN WITH THE SEED: the statements are not yours to turn. If you find one false, say at which input.
  Laid BY PROGRAM, IN A SANDBOX (cutbox-rows.mjs): the forced cells as the released guide's own fill.sh prints them over the translation 85c37fa39916ebd2… (all of the seat's roots in one cut). By AI agents, Wed Nov 11 2026. No macro, syntax, notation, axiom, sorry.
-/
import Derived.Test.YtgbcaiedlmejfaaChecked
import GoSem.Claim
import GoSem.ClaimJoined
import GoSem.ClaimMapViews
import Derived.JoinedTies
import Derived.KernelRfl
namespace Go.Proofs.Ytgbcaiedlmejfaa
/- THE CELL 'sum', in the pinned program and in every row, IS THE sha256 OF THE DUMP (.gsa) THAT YtgbcaiedlmejfaaProg.lean LOADS. Nothing in Lean hashes anything: it is a label: what it is worth is what the hold of that sum in a sandbox is worth. -/
noncomputable def Try.pinned : Pinned := { name := "ytgbcaiedlmejfaa", sum := "85c37fa39916ebd2204b65b952f3a186865ac6730be7137042c20557e014abfd", checked := Try.checked }
namespace Rows
def none {H : Type} : Left H := { results := [], args := [] }

/-- 'polyglotlaw6.StampTells': WHATEVER THE INPUT: true; the input reads as it did. -/
def stampTellsSpec : ChangeSpec := { name := "stampTells", fn := fun _ => fun
  | [d1, d2, d3, d4] => { results := [.lit (.bool true)], args := [d1, d2, d3, d4] }
  | _ => none }
def stampTellsRow : OpenClaim := { program := "ytgbcaiedlmejfaa", sum := "85c37fa39916ebd2204b65b952f3a186865ac6730be7137042c20557e014abfd", func := "polyglot/polyglotlaw6.StampTells", spec := "stampTells", inPlace := ["math/bits.Add64"], named := ["math/bits.divideError", "math/bits.overflowError"], apart := false }
def StampTellsSaid : Prop := stampTellsRow.holds Try.pinned (OpenSpec.ofChange stampTellsSpec)

/-- ITS FALSE NEIGHBOUR: 'it returns false'. Refute it at one input. -/
def stampTellsWrong : ChangeSpec := { name := "stampTells", fn := fun _ => fun
  | [d1, d2, d3, d4] => { results := [.lit (.bool false)], args := [d1, d2, d3, d4] }
  | _ => none }
def StampTellsWrongFalsely : Prop := stampTellsRow.holds Try.pinned (OpenSpec.ofChange stampTellsWrong)

/-- 'polyglotlaw6.StampBack': WHATEVER THE INPUT: true; the input reads as it did. -/
def stampBackSpec : ChangeSpec := { name := "stampBack", fn := fun _ => fun
  | [d1, d2] => { results := [.lit (.bool true)], args := [d1, d2] }
  | _ => none }
def stampBackRow : OpenClaim := { program := "ytgbcaiedlmejfaa", sum := "85c37fa39916ebd2204b65b952f3a186865ac6730be7137042c20557e014abfd", func := "polyglot/polyglotlaw6.StampBack", spec := "stampBack", inPlace := ["math/bits.Add64"], named := ["math/bits.divideError", "math/bits.overflowError"], apart := false }
def StampBackSaid : Prop := stampBackRow.holds Try.pinned (OpenSpec.ofChange stampBackSpec)

/-- ITS FALSE NEIGHBOUR: 'it returns false'. Refute it at one input. -/
def stampBackWrong : ChangeSpec := { name := "stampBack", fn := fun _ => fun
  | [d1, d2] => { results := [.lit (.bool false)], args := [d1, d2] }
  | _ => none }
def StampBackWrongFalsely : Prop := stampBackRow.holds Try.pinned (OpenSpec.ofChange stampBackWrong)

/-- 'polyglotlaw6.StampBounds': WHATEVER THE INPUT: true; the input reads as it did. -/
def stampBoundsSpec : ChangeSpec := { name := "stampBounds", fn := fun _ => fun
  | [d1, d2] => { results := [.lit (.bool true)], args := [d1, d2] }
  | _ => none }
def stampBoundsRow : OpenClaim := { program := "ytgbcaiedlmejfaa", sum := "85c37fa39916ebd2204b65b952f3a186865ac6730be7137042c20557e014abfd", func := "polyglot/polyglotlaw6.StampBounds", spec := "stampBounds", inPlace := ["math/bits.Add64"], named := ["math/bits.divideError", "math/bits.overflowError"], apart := false }
def StampBoundsSaid : Prop := stampBoundsRow.holds Try.pinned (OpenSpec.ofChange stampBoundsSpec)

/-- ITS FALSE NEIGHBOUR: 'it returns false'. Refute it at one input. -/
def stampBoundsWrong : ChangeSpec := { name := "stampBounds", fn := fun _ => fun
  | [d1, d2] => { results := [.lit (.bool false)], args := [d1, d2] }
  | _ => none }
def StampBoundsWrongFalsely : Prop := stampBoundsRow.holds Try.pinned (OpenSpec.ofChange stampBoundsWrong)

/-- 'polyglotlaw6.StampInts': WHATEVER THE INPUT: true; the input reads as it did. -/
def stampIntsSpec : ChangeSpec := { name := "stampInts", fn := fun _ => fun
  | [d1, d2] => { results := [.lit (.bool true)], args := [d1, d2] }
  | _ => none }
def stampIntsRow : OpenClaim := { program := "ytgbcaiedlmejfaa", sum := "85c37fa39916ebd2204b65b952f3a186865ac6730be7137042c20557e014abfd", func := "polyglot/polyglotlaw6.StampInts", spec := "stampInts", inPlace := ["math/bits.Add64"], named := ["math/bits.divideError", "math/bits.overflowError"], apart := false }
def StampIntsSaid : Prop := stampIntsRow.holds Try.pinned (OpenSpec.ofChange stampIntsSpec)

/-- ITS FALSE NEIGHBOUR: 'it returns false'. Refute it at one input. -/
def stampIntsWrong : ChangeSpec := { name := "stampInts", fn := fun _ => fun
  | [d1, d2] => { results := [.lit (.bool false)], args := [d1, d2] }
  | _ => none }
def StampIntsWrongFalsely : Prop := stampIntsRow.holds Try.pinned (OpenSpec.ofChange stampIntsWrong)

/- THE SECOND FORM. 'bulk': how many values and letters a reading holds, each counted each time it is reached (what is shared counts as often as it is met; a slice's spare places count too). A statement '..UptoSaid' is the law's where the arguments, and the package variables that the reading takes, are together of bulk at most 1048576: NARROWER than '..Said'. Prove '..Said' where nothing that the law and all that it calls make is longer than what came in: it says more and counts as full. Else prove '..UptoSaid'. A law counts once. -/
mutual
def uptoBulk {H : Type} : DataW H → Nat
  | .lit (.string bytes) => bytes.length + 1
  | .lit _ => 1
  | .nil => 1
  | .ptr d => uptoBulk d + 1
  | .slice elems spare => uptoBulkAll elems + uptoBulkAll spare + 1
  | .agg parts => uptoBulkAll parts + 1
  | .iface _ d => uptoBulk d + 1
  | .map entries => uptoBulkEntries entries + 1
  | .held _ => 1
def uptoBulkAll {H : Type} : List (DataW H) → Nat
  | [] => 0
  | d :: r => uptoBulk d + uptoBulkAll r
def uptoBulkEntries {H : Type} : List (Lit × DataW H) → Nat
  | [] => 0
  | x :: r => uptoBulkEntry x + uptoBulkEntries r
def uptoBulkEntry {H : Type} : Lit × DataW H → Nat
  | (.string bytes, d) => bytes.length + uptoBulk d + 1
  | (_, d) => uptoBulk d + 1
 end
def uptoSmall : (H : Type) → List (DataW H) → Bool := fun _ ds => decide (uptoBulkAll ds ≤ 1048576)
def OpenSpec.upto (s : _root_.Go.ChangeSpec) : _root_.Go.OpenSpec := { _root_.Go.OpenSpec.ofChange s with cond := some uptoSmall }

/-- 'polyglotlaw6.StampTells', WHERE WHAT IT READS IS OF BULK AT MOST 1048576: true; the input reads as it did. -/
def stampTellsUptoRow : OpenClaim := { program := "ytgbcaiedlmejfaa", sum := "85c37fa39916ebd2204b65b952f3a186865ac6730be7137042c20557e014abfd", func := "polyglot/polyglotlaw6.StampTells", spec := "stampTells", inPlace := ["math/bits.Add64"], named := ["math/bits.divideError", "math/bits.overflowError"], apart := false, narrowed := true }
def StampTellsUptoSaid : Prop := stampTellsUptoRow.holds Try.pinned (OpenSpec.upto stampTellsSpec)

/-- 'polyglotlaw6.StampBack', WHERE WHAT IT READS IS OF BULK AT MOST 1048576: true; the input reads as it did. -/
def stampBackUptoRow : OpenClaim := { program := "ytgbcaiedlmejfaa", sum := "85c37fa39916ebd2204b65b952f3a186865ac6730be7137042c20557e014abfd", func := "polyglot/polyglotlaw6.StampBack", spec := "stampBack", inPlace := ["math/bits.Add64"], named := ["math/bits.divideError", "math/bits.overflowError"], apart := false, narrowed := true }
def StampBackUptoSaid : Prop := stampBackUptoRow.holds Try.pinned (OpenSpec.upto stampBackSpec)

/-- 'polyglotlaw6.StampBounds', WHERE WHAT IT READS IS OF BULK AT MOST 1048576: true; the input reads as it did. -/
def stampBoundsUptoRow : OpenClaim := { program := "ytgbcaiedlmejfaa", sum := "85c37fa39916ebd2204b65b952f3a186865ac6730be7137042c20557e014abfd", func := "polyglot/polyglotlaw6.StampBounds", spec := "stampBounds", inPlace := ["math/bits.Add64"], named := ["math/bits.divideError", "math/bits.overflowError"], apart := false, narrowed := true }
def StampBoundsUptoSaid : Prop := stampBoundsUptoRow.holds Try.pinned (OpenSpec.upto stampBoundsSpec)

/-- 'polyglotlaw6.StampInts', WHERE WHAT IT READS IS OF BULK AT MOST 1048576: true; the input reads as it did. -/
def stampIntsUptoRow : OpenClaim := { program := "ytgbcaiedlmejfaa", sum := "85c37fa39916ebd2204b65b952f3a186865ac6730be7137042c20557e014abfd", func := "polyglot/polyglotlaw6.StampInts", spec := "stampInts", inPlace := ["math/bits.Add64"], named := ["math/bits.divideError", "math/bits.overflowError"], apart := false, narrowed := true }
def StampIntsUptoSaid : Prop := stampIntsUptoRow.holds Try.pinned (OpenSpec.upto stampIntsSpec)

end Rows
end Go.Proofs.Ytgbcaiedlmejfaa

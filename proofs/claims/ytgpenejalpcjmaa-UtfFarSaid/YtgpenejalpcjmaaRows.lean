/-
  No cell of these rows narrows 'for every input' (looked for: loops, veiled, ifaces, maps, wideKeys, modest, calm, conditions, laid).
  DERIVED. THE GIVEN ROWS OF THIS SEAT. 5 by the template 'for every input the law returns true; each argument reads behind the call as it read before'; 0 by the template 'total and deterministic' (their statements: YtgpenejalpcjmaaTotals.lean).
  GIVEN WITH THE SEED: the statements are not yours to turn. If you find one false, say at which input.
  Laid BY PROGRAM, IN A SANDBOX (cutbox-rows.mjs): the forced cells as the released guide's own fill.sh prints them over the translation c3cefa20c898518b… (all of the seat's roots in one cut). By AI agents, Wed Nov 11 2026. No macro, syntax, notation, axiom, sorry.
-/
import Derived.Test.YtgpenejalpcjmaaChecked
import GoSem.Claim
import GoSem.ClaimJoined
import GoSem.ClaimMapViews
import Derived.JoinedTies
import Derived.KernelRfl
namespace Go.Proofs.Ytgpenejalpcjmaa
/- THE CELL 'sum', in the pinned program and in every row, IS THE sha256 OF THE DUMP (.gsa) THAT YtgpenejalpcjmaaProg.lean LOADS. Nothing in Lean hashes anything: it is a label: what it is worth is what the hold of that sum in a sandbox is worth. -/
noncomputable def Try.pinned : Pinned := { name := "ytgpenejalpcjmaa", sum := "c3cefa20c898518b1ea720f08dc8e0075c5f6dec32247a6ac1ac61437602f60a", checked := Try.checked }
namespace Rows
def none {H : Type} : Left H := { results := [], args := [] }

/-- 'polyglotlaw1.UtfTells': WHATEVER THE INPUT: true; the input reads as it did. -/
def utfTellsSpec : ChangeSpec := { name := "utfTells", fn := fun _ => fun
  | [d1, d2, d3] => { results := [.lit (.bool true)], args := [d1, d2, d3] }
  | _ => none }
def utfTellsRow : OpenClaim := { program := "ytgpenejalpcjmaa", sum := "c3cefa20c898518b1ea720f08dc8e0075c5f6dec32247a6ac1ac61437602f60a", func := "polyglot/polyglotlaw1.UtfTells", spec := "utfTells", apart := false }
def UtfTellsSaid : Prop := utfTellsRow.holds Try.pinned (OpenSpec.ofChange utfTellsSpec)

/-- ITS FALSE NEIGHBOUR: 'it returns false'. Refute it at one input. -/
def utfTellsWrong : ChangeSpec := { name := "utfTells", fn := fun _ => fun
  | [d1, d2, d3] => { results := [.lit (.bool false)], args := [d1, d2, d3] }
  | _ => none }
def UtfTellsWrongFalsely : Prop := utfTellsRow.holds Try.pinned (OpenSpec.ofChange utfTellsWrong)

/-- 'polyglotlaw1.UtfBack': WHATEVER THE INPUT: true; the input reads as it did. -/
def utfBackSpec : ChangeSpec := { name := "utfBack", fn := fun _ => fun
  | [d1, d2, d3] => { results := [.lit (.bool true)], args := [d1, d2, d3] }
  | _ => none }
def utfBackRow : OpenClaim := { program := "ytgpenejalpcjmaa", sum := "c3cefa20c898518b1ea720f08dc8e0075c5f6dec32247a6ac1ac61437602f60a", func := "polyglot/polyglotlaw1.UtfBack", spec := "utfBack", apart := false }
def UtfBackSaid : Prop := utfBackRow.holds Try.pinned (OpenSpec.ofChange utfBackSpec)

/-- ITS FALSE NEIGHBOUR: 'it returns false'. Refute it at one input. -/
def utfBackWrong : ChangeSpec := { name := "utfBack", fn := fun _ => fun
  | [d1, d2, d3] => { results := [.lit (.bool false)], args := [d1, d2, d3] }
  | _ => none }
def UtfBackWrongFalsely : Prop := utfBackRow.holds Try.pinned (OpenSpec.ofChange utfBackWrong)

/-- 'polyglotlaw1.UtfFar': WHATEVER THE INPUT: true; the input reads as it did. -/
def utfFarSpec : ChangeSpec := { name := "utfFar", fn := fun _ => fun
  | [d1, d2] => { results := [.lit (.bool true)], args := [d1, d2] }
  | _ => none }
def utfFarRow : OpenClaim := { program := "ytgpenejalpcjmaa", sum := "c3cefa20c898518b1ea720f08dc8e0075c5f6dec32247a6ac1ac61437602f60a", func := "polyglot/polyglotlaw1.UtfFar", spec := "utfFar", apart := false }
def UtfFarSaid : Prop := utfFarRow.holds Try.pinned (OpenSpec.ofChange utfFarSpec)

/-- ITS FALSE NEIGHBOUR: 'it returns false'. Refute it at one input. -/
def utfFarWrong : ChangeSpec := { name := "utfFar", fn := fun _ => fun
  | [d1, d2] => { results := [.lit (.bool false)], args := [d1, d2] }
  | _ => none }
def UtfFarWrongFalsely : Prop := utfFarRow.holds Try.pinned (OpenSpec.ofChange utfFarWrong)

/-- 'polyglotlaw1.UtfJoins': WHATEVER THE INPUT: true; the input reads as it did. -/
def utfJoinsSpec : ChangeSpec := { name := "utfJoins", fn := fun _ => fun
  | [d1, d2] => { results := [.lit (.bool true)], args := [d1, d2] }
  | _ => none }
def utfJoinsRow : OpenClaim := { program := "ytgpenejalpcjmaa", sum := "c3cefa20c898518b1ea720f08dc8e0075c5f6dec32247a6ac1ac61437602f60a", func := "polyglot/polyglotlaw1.UtfJoins", spec := "utfJoins", apart := false }
def UtfJoinsSaid : Prop := utfJoinsRow.holds Try.pinned (OpenSpec.ofChange utfJoinsSpec)

/-- ITS FALSE NEIGHBOUR: 'it returns false'. Refute it at one input. -/
def utfJoinsWrong : ChangeSpec := { name := "utfJoins", fn := fun _ => fun
  | [d1, d2] => { results := [.lit (.bool false)], args := [d1, d2] }
  | _ => none }
def UtfJoinsWrongFalsely : Prop := utfJoinsRow.holds Try.pinned (OpenSpec.ofChange utfJoinsWrong)

/-- 'polyglotlaw1.UtfWalks': WHATEVER THE INPUT: true; the input reads as it did. -/
def utfWalksSpec : ChangeSpec := { name := "utfWalks", fn := fun _ => fun
  | [d] => { results := [.lit (.bool true)], args := [d] }
  | _ => none }
def utfWalksRow : OpenClaim := { program := "ytgpenejalpcjmaa", sum := "c3cefa20c898518b1ea720f08dc8e0075c5f6dec32247a6ac1ac61437602f60a", func := "polyglot/polyglotlaw1.UtfWalks", spec := "utfWalks", apart := false }
def UtfWalksSaid : Prop := utfWalksRow.holds Try.pinned (OpenSpec.ofChange utfWalksSpec)

/-- ITS FALSE NEIGHBOUR: 'it returns false'. Refute it at one input. -/
def utfWalksWrong : ChangeSpec := { name := "utfWalks", fn := fun _ => fun
  | [d] => { results := [.lit (.bool false)], args := [d] }
  | _ => none }
def UtfWalksWrongFalsely : Prop := utfWalksRow.holds Try.pinned (OpenSpec.ofChange utfWalksWrong)

/- THE SECOND FORM. 'bulk': how many values and letters a reading holds, each counted each time it is reached (what is shared counts as often as it is met; a slice's spare places count too). A statement '..UptoSaid' is the law's where the arguments, and the package variables that the reading takes, are together of bulk at most 1048576: NARROWER than '..Said'. Prove '..Said' where nothing that the law and all that it calls make is longer than what came in: it says more and counts as full. Else prove '..UptoSaid'. A law counts once. -/
mutual
def uptoBulk {H : Type} : DataW H → Nat
  | .lit (.string bytes) => bytes.length + 1
  | .lit _ => 1
  | .nil => 1
  | .ptr d => uptoBulk d + 1
  | .slice elems spare => uptoBulkAll elems + uptoBulkAll spare + 1
  | .agg parts => uptoBulkAll parts + 1
  | .iface _ d => uptoBulk d + 1
  | .map entries => uptoBulkEntries entries + 1
  | .held _ => 1
def uptoBulkAll {H : Type} : List (DataW H) → Nat
  | [] => 0
  | d :: r => uptoBulk d + uptoBulkAll r
def uptoBulkEntries {H : Type} : List (Lit × DataW H) → Nat
  | [] => 0
  | x :: r => uptoBulkEntry x + uptoBulkEntries r
def uptoBulkEntry {H : Type} : Lit × DataW H → Nat
  | (.string bytes, d) => bytes.length + uptoBulk d + 1
  | (_, d) => uptoBulk d + 1
 end
def uptoSmall : (H : Type) → List (DataW H) → Bool := fun _ ds => decide (uptoBulkAll ds ≤ 1048576)
def OpenSpec.upto (s : _root_.Go.ChangeSpec) : _root_.Go.OpenSpec := { _root_.Go.OpenSpec.ofChange s with cond := some uptoSmall }

/-- 'polyglotlaw1.UtfTells', WHERE WHAT IT READS IS OF BULK AT MOST 1048576: true; the input reads as it did. -/
def utfTellsUptoRow : OpenClaim := { program := "ytgpenejalpcjmaa", sum := "c3cefa20c898518b1ea720f08dc8e0075c5f6dec32247a6ac1ac61437602f60a", func := "polyglot/polyglotlaw1.UtfTells", spec := "utfTells", apart := false, narrowed := true }
def UtfTellsUptoSaid : Prop := utfTellsUptoRow.holds Try.pinned (OpenSpec.upto utfTellsSpec)

/-- 'polyglotlaw1.UtfBack', WHERE WHAT IT READS IS OF BULK AT MOST 1048576: true; the input reads as it did. -/
def utfBackUptoRow : OpenClaim := { program := "ytgpenejalpcjmaa", sum := "c3cefa20c898518b1ea720f08dc8e0075c5f6dec32247a6ac1ac61437602f60a", func := "polyglot/polyglotlaw1.UtfBack", spec := "utfBack", apart := false, narrowed := true }
def UtfBackUptoSaid : Prop := utfBackUptoRow.holds Try.pinned (OpenSpec.upto utfBackSpec)

/-- 'polyglotlaw1.UtfFar', WHERE WHAT IT READS IS OF BULK AT MOST 1048576: true; the input reads as it did. -/
def utfFarUptoRow : OpenClaim := { program := "ytgpenejalpcjmaa", sum := "c3cefa20c898518b1ea720f08dc8e0075c5f6dec32247a6ac1ac61437602f60a", func := "polyglot/polyglotlaw1.UtfFar", spec := "utfFar", apart := false, narrowed := true }
def UtfFarUptoSaid : Prop := utfFarUptoRow.holds Try.pinned (OpenSpec.upto utfFarSpec)

/-- 'polyglotlaw1.UtfJoins', WHERE WHAT IT READS IS OF BULK AT MOST 1048576: true; the input reads as it did. -/
def utfJoinsUptoRow : OpenClaim := { program := "ytgpenejalpcjmaa", sum := "c3cefa20c898518b1ea720f08dc8e0075c5f6dec32247a6ac1ac61437602f60a", func := "polyglot/polyglotlaw1.UtfJoins", spec := "utfJoins", apart := false, narrowed := true }
def UtfJoinsUptoSaid : Prop := utfJoinsUptoRow.holds Try.pinned (OpenSpec.upto utfJoinsSpec)

/-- 'polyglotlaw1.UtfWalks', WHERE WHAT IT READS IS OF BULK AT MOST 1048576: true; the input reads as it did. -/
def utfWalksUptoRow : OpenClaim := { program := "ytgpenejalpcjmaa", sum := "c3cefa20c898518b1ea720f08dc8e0075c5f6dec32247a6ac1ac61437602f60a", func := "polyglot/polyglotlaw1.UtfWalks", spec := "utfWalks", apart := false, narrowed := true }
def UtfWalksUptoSaid : Prop := utfWalksUptoRow.holds Try.pinned (OpenSpec.upto utfWalksSpec)

end Rows
end Go.Proofs.Ytgpenejalpcjmaa

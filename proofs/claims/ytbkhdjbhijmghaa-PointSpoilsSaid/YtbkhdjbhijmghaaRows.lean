/-
  No cell of these rows narrows 'for every input' (looked for: loops, veiled, ifaces, maps, wideKeys, modest, calm, conditions, laid).
  DERIVED. THE GIVEN ROWS OF THIS SEAT. 2 by the template 'for every input the law returns true; each argument reads behind the call as it read before'; 0 by the template 'total and deterministic' (their statements: YtbkhdjbhijmghaaTotals.lean).
  GIVEN WITH THE SEED: the statements are not yours to turn. If you find one false, say at which input.
  Laid BY PROGRAM, IN A SANDBOX (cutbox-rows.mjs): the forced cells as the released guide's own fill.sh prints them over the translation 629332832209d381… (all of the seat's roots in one cut). By AI agents, Wed Nov 11 2026. No macro, syntax, notation, axiom, sorry.
-/
import Derived.Test.YtbkhdjbhijmghaaChecked
import GoSem.Claim
import GoSem.ClaimJoined
import GoSem.ClaimMapViews
import Derived.JoinedTies
import Derived.KernelRfl
namespace Go.Proofs.Ytbkhdjbhijmghaa
/- THE CELL 'sum', in the pinned program and in every row, IS THE sha256 OF THE DUMP (.gsa) THAT YtbkhdjbhijmghaaProg.lean LOADS. Nothing in Lean hashes anything: it is a label: what it is worth is what the hold of that sum in a sandbox is worth. -/
noncomputable def Try.pinned : Pinned := { name := "ytbkhdjbhijmghaa", sum := "629332832209d3811bdd76300d7cc68012cfe229d420c2a14f203ae6b585544d", checked := Try.checked }
namespace Rows
def none {H : Type} : Left H := { results := [], args := [] }

/-- 'polyglotlaw8.PointParts': WHATEVER THE INPUT: true; the input reads as it did. -/
def pointPartsSpec : ChangeSpec := { name := "pointParts", fn := fun _ => fun
  | [d1, d2, d3, d4] => { results := [.lit (.bool true)], args := [d1, d2, d3, d4] }
  | _ => none }
def pointPartsRow : OpenClaim := { program := "ytbkhdjbhijmghaa", sum := "629332832209d3811bdd76300d7cc68012cfe229d420c2a14f203ae6b585544d", func := "polyglot/polyglotlaw8.PointParts", spec := "pointParts", inPlace := ["math/bits.Add64", "internal/bytealg.abigen_runtime_cmpstring"], unfollowed := true, recurses := true, apart := false }
def PointPartsSaid : Prop := pointPartsRow.holds Try.pinned (OpenSpec.ofChange pointPartsSpec)

/-- ITS FALSE NEIGHBOUR: 'it returns false'. Refute it at one input. -/
def pointPartsWrong : ChangeSpec := { name := "pointParts", fn := fun _ => fun
  | [d1, d2, d3, d4] => { results := [.lit (.bool false)], args := [d1, d2, d3, d4] }
  | _ => none }
def PointPartsWrongFalsely : Prop := pointPartsRow.holds Try.pinned (OpenSpec.ofChange pointPartsWrong)

/-- 'polyglotlaw8.PointSpoils': WHATEVER THE INPUT: true; the input reads as it did. -/
def pointSpoilsSpec : ChangeSpec := { name := "pointSpoils", fn := fun _ => fun
  | [d1, d2, d3, d4] => { results := [.lit (.bool true)], args := [d1, d2, d3, d4] }
  | _ => none }
def pointSpoilsRow : OpenClaim := { program := "ytbkhdjbhijmghaa", sum := "629332832209d3811bdd76300d7cc68012cfe229d420c2a14f203ae6b585544d", func := "polyglot/polyglotlaw8.PointSpoils", spec := "pointSpoils", inPlace := ["math/bits.Add64", "internal/bytealg.abigen_runtime_cmpstring"], unfollowed := true, recurses := true, apart := false }
def PointSpoilsSaid : Prop := pointSpoilsRow.holds Try.pinned (OpenSpec.ofChange pointSpoilsSpec)

/-- ITS FALSE NEIGHBOUR: 'it returns false'. Refute it at one input. -/
def pointSpoilsWrong : ChangeSpec := { name := "pointSpoils", fn := fun _ => fun
  | [d1, d2, d3, d4] => { results := [.lit (.bool false)], args := [d1, d2, d3, d4] }
  | _ => none }
def PointSpoilsWrongFalsely : Prop := pointSpoilsRow.holds Try.pinned (OpenSpec.ofChange pointSpoilsWrong)

/- THE SECOND FORM. 'bulk': how many values and letters a reading holds, each counted each time it is reached (what is shared counts as often as it is met; a slice's spare places count too). A statement '..UptoSaid' is the law's where the arguments, and the package variables that the reading takes, are together of bulk at most 1048576: NARROWER than '..Said'. Prove '..Said' where nothing that the law and all that it calls make is longer than what came in: it says more and counts as full. Else prove '..UptoSaid'. A law counts once. -/
mutual
def uptoBulk {H : Type} : DataW H → Nat
  | .lit (.string bytes) => bytes.length + 1
  | .lit _ => 1
  | .nil => 1
  | .ptr d => uptoBulk d + 1
  | .slice elems spare => uptoBulkAll elems + uptoBulkAll spare + 1
  | .agg parts => uptoBulkAll parts + 1
  | .iface _ d => uptoBulk d + 1
  | .map entries => uptoBulkEntries entries + 1
  | .held _ => 1
def uptoBulkAll {H : Type} : List (DataW H) → Nat
  | [] => 0
  | d :: r => uptoBulk d + uptoBulkAll r
def uptoBulkEntries {H : Type} : List (Lit × DataW H) → Nat
  | [] => 0
  | x :: r => uptoBulkEntry x + uptoBulkEntries r
def uptoBulkEntry {H : Type} : Lit × DataW H → Nat
  | (.string bytes, d) => bytes.length + uptoBulk d + 1
  | (_, d) => uptoBulk d + 1
 end
def uptoSmall : (H : Type) → List (DataW H) → Bool := fun _ ds => decide (uptoBulkAll ds ≤ 1048576)
def OpenSpec.upto (s : _root_.Go.ChangeSpec) : _root_.Go.OpenSpec := { _root_.Go.OpenSpec.ofChange s with cond := some uptoSmall }

/-- 'polyglotlaw8.PointParts', WHERE WHAT IT READS IS OF BULK AT MOST 1048576: true; the input reads as it did. -/
def pointPartsUptoRow : OpenClaim := { program := "ytbkhdjbhijmghaa", sum := "629332832209d3811bdd76300d7cc68012cfe229d420c2a14f203ae6b585544d", func := "polyglot/polyglotlaw8.PointParts", spec := "pointParts", inPlace := ["math/bits.Add64", "internal/bytealg.abigen_runtime_cmpstring"], unfollowed := true, recurses := true, apart := false, narrowed := true }
def PointPartsUptoSaid : Prop := pointPartsUptoRow.holds Try.pinned (OpenSpec.upto pointPartsSpec)

/-- 'polyglotlaw8.PointSpoils', WHERE WHAT IT READS IS OF BULK AT MOST 1048576: true; the input reads as it did. -/
def pointSpoilsUptoRow : OpenClaim := { program := "ytbkhdjbhijmghaa", sum := "629332832209d3811bdd76300d7cc68012cfe229d420c2a14f203ae6b585544d", func := "polyglot/polyglotlaw8.PointSpoils", spec := "pointSpoils", inPlace := ["math/bits.Add64", "internal/bytealg.abigen_runtime_cmpstring"], unfollowed := true, recurses := true, apart := false, narrowed := true }
def PointSpoilsUptoSaid : Prop := pointSpoilsUptoRow.holds Try.pinned (OpenSpec.upto pointSpoilsSpec)

end Rows
end Go.Proofs.Ytbkhdjbhijmghaa

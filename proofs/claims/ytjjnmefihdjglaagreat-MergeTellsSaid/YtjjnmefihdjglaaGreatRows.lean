/-
  No cell of these rows narrows 'for every input' (looked for: loops, veiled, ifaces, maps, wideKeys, modest, calm, conditions, laid).
  DERIVED. THE GIVEN ROWS OF THIS SEAT. 7 by the template 'for every input the law returns true; each argument reads behind the call as it read before'; 0 by the template 'total and deterministic' (their statements: YtjjnmefihdjglaaGreatTotals.lean).
  GIVEN WITH THE SEED: the statements are not yours to turn. If you find one false, say at which input.
  Laid BY PROGRAM, IN A SANDBOX (cutbox-rows.mjs): the forced cells as the released guide's own fill.sh prints them over the translation fbcee6aecde25fa5… (all of the seat's roots in one cut). By AI agents, Wed Nov 11 2026. No macro, syntax, notation, axiom, sorry.
-/
import Derived.Test.YtjjnmefihdjglaaGreatChecked
import GoSem.Claim
import GoSem.ClaimJoined
import GoSem.ClaimMapViews
import Derived.JoinedTies
import Derived.KernelRfl
namespace Go.Proofs.YtjjnmefihdjglaaGreat
/- THE CELL 'sum', in the pinned program and in every row, IS THE sha256 OF THE DUMP (.gsa) THAT YtjjnmefihdjglaaGreatProg.lean LOADS. Nothing in Lean hashes anything: it is a label: what it is worth is what the hold of that sum in a sandbox is worth. -/
noncomputable def Tryz.pinned : Pinned := { name := "ytjjnmefihdjglaagreat", sum := "fbcee6aecde25fa57defaa43c02bba0138526955136e074ef787141c7c077d92", checked := Tryz.checked }
namespace Rows
def none {H : Type} : Left H := { results := [], args := [] }

/-- 'polyglotlaw11.MergeLater': WHATEVER THE INPUT: true; the input reads as it did. -/
def mergeLaterSpec : ChangeSpec := { name := "mergeLater", fn := fun _ => fun
  | [d] => { results := [.lit (.bool true)], args := [d] }
  | _ => none }
def mergeLaterRow : OpenClaim := { program := "ytjjnmefihdjglaagreat", sum := "fbcee6aecde25fa57defaa43c02bba0138526955136e074ef787141c7c077d92", func := "polyglot/polyglotlaw11.MergeLater", spec := "mergeLater", inPlace := ["math/bits.Add64", "internal/bytealg.abigen_runtime_cmpstring"], unfollowed := true, recurses := true, apart := false }
def MergeLaterSaid : Prop := mergeLaterRow.holds Tryz.pinned (OpenSpec.ofChange mergeLaterSpec)

/-- ITS FALSE NEIGHBOUR: 'it returns false'. Refute it at one input. -/
def mergeLaterWrong : ChangeSpec := { name := "mergeLater", fn := fun _ => fun
  | [d] => { results := [.lit (.bool false)], args := [d] }
  | _ => none }
def MergeLaterWrongFalsely : Prop := mergeLaterRow.holds Tryz.pinned (OpenSpec.ofChange mergeLaterWrong)

/-- 'polyglotlaw11.MergeKinds': WHATEVER THE INPUT: true; the input reads as it did. -/
def mergeKindsSpec : ChangeSpec := { name := "mergeKinds", fn := fun _ => fun
  | [d1, d2] => { results := [.lit (.bool true)], args := [d1, d2] }
  | _ => none }
def mergeKindsRow : OpenClaim := { program := "ytjjnmefihdjglaagreat", sum := "fbcee6aecde25fa57defaa43c02bba0138526955136e074ef787141c7c077d92", func := "polyglot/polyglotlaw11.MergeKinds", spec := "mergeKinds", inPlace := ["math/bits.Add64", "internal/bytealg.abigen_runtime_cmpstring"], unfollowed := true, recurses := true, apart := false }
def MergeKindsSaid : Prop := mergeKindsRow.holds Tryz.pinned (OpenSpec.ofChange mergeKindsSpec)

/-- ITS FALSE NEIGHBOUR: 'it returns false'. Refute it at one input. -/
def mergeKindsWrong : ChangeSpec := { name := "mergeKinds", fn := fun _ => fun
  | [d1, d2] => { results := [.lit (.bool false)], args := [d1, d2] }
  | _ => none }
def MergeKindsWrongFalsely : Prop := mergeKindsRow.holds Tryz.pinned (OpenSpec.ofChange mergeKindsWrong)

/-- 'polyglotlaw10.BatchSorts': WHATEVER THE INPUT: true; the input reads as it did. -/
def batchSortsSpec : ChangeSpec := { name := "batchSorts", fn := fun _ => fun
  | [d1, d2] => { results := [.lit (.bool true)], args := [d1, d2] }
  | _ => none }
def batchSortsRow : OpenClaim := { program := "ytjjnmefihdjglaagreat", sum := "fbcee6aecde25fa57defaa43c02bba0138526955136e074ef787141c7c077d92", func := "polyglot/polyglotlaw10.BatchSorts", spec := "batchSorts", inPlace := ["internal/bytealg.abigen_runtime_cmpstring", "math/bits.Add64"], unfollowed := true, recurses := true, apart := false }
def BatchSortsSaid : Prop := batchSortsRow.holds Tryz.pinned (OpenSpec.ofChange batchSortsSpec)

/-- ITS FALSE NEIGHBOUR: 'it returns false'. Refute it at one input. -/
def batchSortsWrong : ChangeSpec := { name := "batchSorts", fn := fun _ => fun
  | [d1, d2] => { results := [.lit (.bool false)], args := [d1, d2] }
  | _ => none }
def BatchSortsWrongFalsely : Prop := batchSortsRow.holds Tryz.pinned (OpenSpec.ofChange batchSortsWrong)

/-- 'polyglotlaw10.BatchOf': WHATEVER THE INPUT: true; the input reads as it did. -/
def batchOfSpec : ChangeSpec := { name := "batchOf", fn := fun _ => fun
  | [d1, d2] => { results := [.lit (.bool true)], args := [d1, d2] }
  | _ => none }
def batchOfRow : OpenClaim := { program := "ytjjnmefihdjglaagreat", sum := "fbcee6aecde25fa57defaa43c02bba0138526955136e074ef787141c7c077d92", func := "polyglot/polyglotlaw10.BatchOf", spec := "batchOf", inPlace := ["internal/bytealg.abigen_runtime_cmpstring", "math/bits.Add64"], unfollowed := true, recurses := true, apart := false }
def BatchOfSaid : Prop := batchOfRow.holds Tryz.pinned (OpenSpec.ofChange batchOfSpec)

/-- ITS FALSE NEIGHBOUR: 'it returns false'. Refute it at one input. -/
def batchOfWrong : ChangeSpec := { name := "batchOf", fn := fun _ => fun
  | [d1, d2] => { results := [.lit (.bool false)], args := [d1, d2] }
  | _ => none }
def BatchOfWrongFalsely : Prop := batchOfRow.holds Tryz.pinned (OpenSpec.ofChange batchOfWrong)

/-- 'polyglotlaw11.MergeTells': WHATEVER THE INPUT: true; the input reads as it did. -/
def mergeTellsSpec : ChangeSpec := { name := "mergeTells", fn := fun _ => fun
  | [d1, d2] => { results := [.lit (.bool true)], args := [d1, d2] }
  | _ => none }
def mergeTellsRow : OpenClaim := { program := "ytjjnmefihdjglaagreat", sum := "fbcee6aecde25fa57defaa43c02bba0138526955136e074ef787141c7c077d92", func := "polyglot/polyglotlaw11.MergeTells", spec := "mergeTells", inPlace := ["math/bits.Add64", "internal/bytealg.abigen_runtime_cmpstring"], unfollowed := true, recurses := true, apart := false }
def MergeTellsSaid : Prop := mergeTellsRow.holds Tryz.pinned (OpenSpec.ofChange mergeTellsSpec)

/-- ITS FALSE NEIGHBOUR: 'it returns false'. Refute it at one input. -/
def mergeTellsWrong : ChangeSpec := { name := "mergeTells", fn := fun _ => fun
  | [d1, d2] => { results := [.lit (.bool false)], args := [d1, d2] }
  | _ => none }
def MergeTellsWrongFalsely : Prop := mergeTellsRow.holds Tryz.pinned (OpenSpec.ofChange mergeTellsWrong)

/-- 'polyglotlaw11.MergeSelf': WHATEVER THE INPUT: true; the input reads as it did. -/
def mergeSelfSpec : ChangeSpec := { name := "mergeSelf", fn := fun _ => fun
  | [d1, d2] => { results := [.lit (.bool true)], args := [d1, d2] }
  | _ => none }
def mergeSelfRow : OpenClaim := { program := "ytjjnmefihdjglaagreat", sum := "fbcee6aecde25fa57defaa43c02bba0138526955136e074ef787141c7c077d92", func := "polyglot/polyglotlaw11.MergeSelf", spec := "mergeSelf", inPlace := ["math/bits.Add64", "internal/bytealg.abigen_runtime_cmpstring"], unfollowed := true, recurses := true, apart := false }
def MergeSelfSaid : Prop := mergeSelfRow.holds Tryz.pinned (OpenSpec.ofChange mergeSelfSpec)

/-- ITS FALSE NEIGHBOUR: 'it returns false'. Refute it at one input. -/
def mergeSelfWrong : ChangeSpec := { name := "mergeSelf", fn := fun _ => fun
  | [d1, d2] => { results := [.lit (.bool false)], args := [d1, d2] }
  | _ => none }
def MergeSelfWrongFalsely : Prop := mergeSelfRow.holds Tryz.pinned (OpenSpec.ofChange mergeSelfWrong)

/-- 'polyglotlaw11.MergeParts': WHATEVER THE INPUT: true; the input reads as it did. -/
def mergePartsSpec : ChangeSpec := { name := "mergeParts", fn := fun _ => fun
  | [d1, d2, d3] => { results := [.lit (.bool true)], args := [d1, d2, d3] }
  | _ => none }
def mergePartsRow : OpenClaim := { program := "ytjjnmefihdjglaagreat", sum := "fbcee6aecde25fa57defaa43c02bba0138526955136e074ef787141c7c077d92", func := "polyglot/polyglotlaw11.MergeParts", spec := "mergeParts", inPlace := ["math/bits.Add64", "internal/bytealg.abigen_runtime_cmpstring"], unfollowed := true, recurses := true, apart := false }
def MergePartsSaid : Prop := mergePartsRow.holds Tryz.pinned (OpenSpec.ofChange mergePartsSpec)

/-- ITS FALSE NEIGHBOUR: 'it returns false'. Refute it at one input. -/
def mergePartsWrong : ChangeSpec := { name := "mergeParts", fn := fun _ => fun
  | [d1, d2, d3] => { results := [.lit (.bool false)], args := [d1, d2, d3] }
  | _ => none }
def MergePartsWrongFalsely : Prop := mergePartsRow.holds Tryz.pinned (OpenSpec.ofChange mergePartsWrong)

/- THE SECOND FORM. 'bulk': how many values and letters a reading holds, each counted each time it is reached (what is shared counts as often as it is met; a slice's spare places count too). A statement '..UptoSaid' is the law's where the arguments, and the package variables that the reading takes, are together of bulk at most 1048576: NARROWER than '..Said'. Prove '..Said' where nothing that the law and all that it calls make is longer than what came in: it says more and counts as full. Else prove '..UptoSaid'. A law counts once. -/
mutual
def uptoBulk {H : Type} : DataW H → Nat
  | .lit (.string bytes) => bytes.length + 1
  | .lit _ => 1
  | .nil => 1
  | .ptr d => uptoBulk d + 1
  | .slice elems spare => uptoBulkAll elems + uptoBulkAll spare + 1
  | .agg parts => uptoBulkAll parts + 1
  | .iface _ d => uptoBulk d + 1
  | .map entries => uptoBulkEntries entries + 1
  | .held _ => 1
def uptoBulkAll {H : Type} : List (DataW H) → Nat
  | [] => 0
  | d :: r => uptoBulk d + uptoBulkAll r
def uptoBulkEntries {H : Type} : List (Lit × DataW H) → Nat
  | [] => 0
  | x :: r => uptoBulkEntry x + uptoBulkEntries r
def uptoBulkEntry {H : Type} : Lit × DataW H → Nat
  | (.string bytes, d) => bytes.length + uptoBulk d + 1
  | (_, d) => uptoBulk d + 1
 end
def uptoSmall : (H : Type) → List (DataW H) → Bool := fun _ ds => decide (uptoBulkAll ds ≤ 1048576)
def OpenSpec.upto (s : _root_.Go.ChangeSpec) : _root_.Go.OpenSpec := { _root_.Go.OpenSpec.ofChange s with cond := some uptoSmall }

/-- 'polyglotlaw11.MergeLater', WHERE WHAT IT READS IS OF BULK AT MOST 1048576: true; the input reads as it did. -/
def mergeLaterUptoRow : OpenClaim := { program := "ytjjnmefihdjglaagreat", sum := "fbcee6aecde25fa57defaa43c02bba0138526955136e074ef787141c7c077d92", func := "polyglot/polyglotlaw11.MergeLater", spec := "mergeLater", inPlace := ["math/bits.Add64", "internal/bytealg.abigen_runtime_cmpstring"], unfollowed := true, recurses := true, apart := false, narrowed := true }
def MergeLaterUptoSaid : Prop := mergeLaterUptoRow.holds Tryz.pinned (OpenSpec.upto mergeLaterSpec)

/-- 'polyglotlaw11.MergeKinds', WHERE WHAT IT READS IS OF BULK AT MOST 1048576: true; the input reads as it did. -/
def mergeKindsUptoRow : OpenClaim := { program := "ytjjnmefihdjglaagreat", sum := "fbcee6aecde25fa57defaa43c02bba0138526955136e074ef787141c7c077d92", func := "polyglot/polyglotlaw11.MergeKinds", spec := "mergeKinds", inPlace := ["math/bits.Add64", "internal/bytealg.abigen_runtime_cmpstring"], unfollowed := true, recurses := true, apart := false, narrowed := true }
def MergeKindsUptoSaid : Prop := mergeKindsUptoRow.holds Tryz.pinned (OpenSpec.upto mergeKindsSpec)

/-- 'polyglotlaw10.BatchSorts', WHERE WHAT IT READS IS OF BULK AT MOST 1048576: true; the input reads as it did. -/
def batchSortsUptoRow : OpenClaim := { program := "ytjjnmefihdjglaagreat", sum := "fbcee6aecde25fa57defaa43c02bba0138526955136e074ef787141c7c077d92", func := "polyglot/polyglotlaw10.BatchSorts", spec := "batchSorts", inPlace := ["internal/bytealg.abigen_runtime_cmpstring", "math/bits.Add64"], unfollowed := true, recurses := true, apart := false, narrowed := true }
def BatchSortsUptoSaid : Prop := batchSortsUptoRow.holds Tryz.pinned (OpenSpec.upto batchSortsSpec)

/-- 'polyglotlaw10.BatchOf', WHERE WHAT IT READS IS OF BULK AT MOST 1048576: true; the input reads as it did. -/
def batchOfUptoRow : OpenClaim := { program := "ytjjnmefihdjglaagreat", sum := "fbcee6aecde25fa57defaa43c02bba0138526955136e074ef787141c7c077d92", func := "polyglot/polyglotlaw10.BatchOf", spec := "batchOf", inPlace := ["internal/bytealg.abigen_runtime_cmpstring", "math/bits.Add64"], unfollowed := true, recurses := true, apart := false, narrowed := true }
def BatchOfUptoSaid : Prop := batchOfUptoRow.holds Tryz.pinned (OpenSpec.upto batchOfSpec)

/-- 'polyglotlaw11.MergeTells', WHERE WHAT IT READS IS OF BULK AT MOST 1048576: true; the input reads as it did. -/
def mergeTellsUptoRow : OpenClaim := { program := "ytjjnmefihdjglaagreat", sum := "fbcee6aecde25fa57defaa43c02bba0138526955136e074ef787141c7c077d92", func := "polyglot/polyglotlaw11.MergeTells", spec := "mergeTells", inPlace := ["math/bits.Add64", "internal/bytealg.abigen_runtime_cmpstring"], unfollowed := true, recurses := true, apart := false, narrowed := true }
def MergeTellsUptoSaid : Prop := mergeTellsUptoRow.holds Tryz.pinned (OpenSpec.upto mergeTellsSpec)

/-- 'polyglotlaw11.MergeSelf', WHERE WHAT IT READS IS OF BULK AT MOST 1048576: true; the input reads as it did. -/
def mergeSelfUptoRow : OpenClaim := { program := "ytjjnmefihdjglaagreat", sum := "fbcee6aecde25fa57defaa43c02bba0138526955136e074ef787141c7c077d92", func := "polyglot/polyglotlaw11.MergeSelf", spec := "mergeSelf", inPlace := ["math/bits.Add64", "internal/bytealg.abigen_runtime_cmpstring"], unfollowed := true, recurses := true, apart := false, narrowed := true }
def MergeSelfUptoSaid : Prop := mergeSelfUptoRow.holds Tryz.pinned (OpenSpec.upto mergeSelfSpec)

/-- 'polyglotlaw11.MergeParts', WHERE WHAT IT READS IS OF BULK AT MOST 1048576: true; the input reads as it did. -/
def mergePartsUptoRow : OpenClaim := { program := "ytjjnmefihdjglaagreat", sum := "fbcee6aecde25fa57defaa43c02bba0138526955136e074ef787141c7c077d92", func := "polyglot/polyglotlaw11.MergeParts", spec := "mergeParts", inPlace := ["math/bits.Add64", "internal/bytealg.abigen_runtime_cmpstring"], unfollowed := true, recurses := true, apart := false, narrowed := true }
def MergePartsUptoSaid : Prop := mergePartsUptoRow.holds Tryz.pinned (OpenSpec.upto mergePartsSpec)

end Rows
end Go.Proofs.YtjjnmefihdjglaaGreat

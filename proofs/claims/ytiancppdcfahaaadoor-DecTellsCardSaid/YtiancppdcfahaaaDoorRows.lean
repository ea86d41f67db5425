/-
  NARROWER THAN 'FOR EVERY INPUT', by the rows' own cells (each row's printed sentence says how): DecTells: laid · DecBack: laid · DecForms: laid · DecBad: laid · DecBounds: laid.
  DERIVED. THE GIVEN ROWS OF THIS SEAT. 5 by the template 'for every input the law returns true; each argument reads behind the call as it read before'; 0 by the template 'total and deterministic' (their statements: YtiancppdcfahaaaDoorTotals.lean).
  GIVEN WITH THE SEED: the statements are not yours to turn. If you find one false, say at which input.
  Laid BY PROGRAM, IN A SANDBOX (cutbox-rows.mjs): the forced cells as the released guide's own fill.sh prints them over the translation 0fda052e84f16840… (all of the seat's roots in one cut). By AI agents, Wed Nov 11 2026. No macro, syntax, notation, axiom, sorry.
-/
import Derived.Test.YtiancppdcfahaaaDoorChecked
import GoSem.PinnedTables
import GoSem.Claim
import GoSem.ClaimJoined
import GoSem.ClaimMapViews
import Derived.JoinedTies
import Derived.KernelRfl
namespace Go.Proofs.YtiancppdcfahaaaDoor
/- THE CELL 'sum', in the pinned program and in every row, IS THE sha256 OF THE DUMP (.gsa) THAT YtiancppdcfahaaaDoorProg.lean LOADS. Nothing in Lean hashes anything: it is a label: what it is worth is what the hold of that sum in a sandbox is worth. -/
noncomputable def Tryd.pinned : Pinned := { name := "ytiancppdcfahaaadoor", sum := "0fda052e84f16840bf0f395b16e6b19306a2c8fd302c7e5e40c99413b508a719", checked := Tryd.checked }
namespace Rows
def none {H : Type} : Left H := { results := [], args := [] }

/- WHAT THE LISTED PACKAGE-LEVEL VARIABLES READ AS WHEN THE CALL BEGINS. Each datum BY PROGRAM (the guide's laid-datum.mjs) off the statement by which the dump's own 'gosem.cut.vars' lays the variable. In a bare row this is a premise. The card (YtiancppdcfahaaaDoorCards.lean) ties it to the program's text. -/
def laid_unicode_utf8_acceptRanges {H : Type} : DataW H := .agg [.agg [.lit (.int .u8 128), .lit (.int .u8 191)], .agg [.lit (.int .u8 160), .lit (.int .u8 191)], .agg [.lit (.int .u8 128), .lit (.int .u8 159)], .agg [.lit (.int .u8 144), .lit (.int .u8 191)], .agg [.lit (.int .u8 128), .lit (.int .u8 143)], .agg [.lit (.int .u8 0), .lit (.int .u8 0)], .agg [.lit (.int .u8 0), .lit (.int .u8 0)], .agg [.lit (.int .u8 0), .lit (.int .u8 0)], .agg [.lit (.int .u8 0), .lit (.int .u8 0)], .agg [.lit (.int .u8 0), .lit (.int .u8 0)], .agg [.lit (.int .u8 0), .lit (.int .u8 0)], .agg [.lit (.int .u8 0), .lit (.int .u8 0)], .agg [.lit (.int .u8 0), .lit (.int .u8 0)], .agg [.lit (.int .u8 0), .lit (.int .u8 0)], .agg [.lit (.int .u8 0), .lit (.int .u8 0)], .agg [.lit (.int .u8 0), .lit (.int .u8 0)]]
/-- One of Go's own tables, pinned by name: the form's constant. -/
def laid_unicode_utf8_first : DataW Unit := Go.Pinned.utf8First

/-- 'polyglotlaw4.DecTells': WHATEVER THE INPUT: true; the input reads as it did. -/
def decTellsSpec : ChangeSpec := { name := "decTells", fn := fun _ => fun
  | [d1, d2, d3, d4] => { results := [.lit (.bool true)], args := [d1, d2, d3, d4] }
  | _ => none }
def decTellsRow : OpenClaim := { program := "ytiancppdcfahaaadoor", sum := "0fda052e84f16840bf0f395b16e6b19306a2c8fd302c7e5e40c99413b508a719", func := "polyglot/polyglotlaw4.DecTells", spec := "decTells", inPlace := ["internal/bytealg.IndexByteString", "internal/bytealg.IndexString"], named := ["unicode/utf8.first", "unicode/utf8.acceptRanges", "internal/bytealg.MaxLen"], apart := false, laid := [("unicode/utf8.acceptRanges", laid_unicode_utf8_acceptRanges), ("unicode/utf8.first", laid_unicode_utf8_first)] }
def DecTellsSaid : Prop := decTellsRow.holds Tryd.pinned (OpenSpec.ofChange decTellsSpec)

/-- ITS FALSE NEIGHBOUR: 'it returns false'. Refute it at one input. -/
def decTellsWrong : ChangeSpec := { name := "decTells", fn := fun _ => fun
  | [d1, d2, d3, d4] => { results := [.lit (.bool false)], args := [d1, d2, d3, d4] }
  | _ => none }
def DecTellsWrongFalsely : Prop := decTellsRow.holds Tryd.pinned (OpenSpec.ofChange decTellsWrong)

/-- 'polyglotlaw4.DecBack': WHATEVER THE INPUT: true; the input reads as it did. -/
def decBackSpec : ChangeSpec := { name := "decBack", fn := fun _ => fun
  | [d1, d2, d3, d4] => { results := [.lit (.bool true)], args := [d1, d2, d3, d4] }
  | _ => none }
def decBackRow : OpenClaim := { program := "ytiancppdcfahaaadoor", sum := "0fda052e84f16840bf0f395b16e6b19306a2c8fd302c7e5e40c99413b508a719", func := "polyglot/polyglotlaw4.DecBack", spec := "decBack", inPlace := ["internal/bytealg.IndexByteString", "internal/bytealg.IndexString"], named := ["unicode/utf8.first", "unicode/utf8.acceptRanges", "internal/bytealg.MaxLen"], apart := false, laid := [("unicode/utf8.acceptRanges", laid_unicode_utf8_acceptRanges), ("unicode/utf8.first", laid_unicode_utf8_first)] }
def DecBackSaid : Prop := decBackRow.holds Tryd.pinned (OpenSpec.ofChange decBackSpec)

/-- ITS FALSE NEIGHBOUR: 'it returns false'. Refute it at one input. -/
def decBackWrong : ChangeSpec := { name := "decBack", fn := fun _ => fun
  | [d1, d2, d3, d4] => { results := [.lit (.bool false)], args := [d1, d2, d3, d4] }
  | _ => none }
def DecBackWrongFalsely : Prop := decBackRow.holds Tryd.pinned (OpenSpec.ofChange decBackWrong)

/-- 'polyglotlaw4.DecForms': WHATEVER THE INPUT: true; the input reads as it did. -/
def decFormsSpec : ChangeSpec := { name := "decForms", fn := fun _ => fun
  | [d1, d2, d3, d4] => { results := [.lit (.bool true)], args := [d1, d2, d3, d4] }
  | _ => none }
def decFormsRow : OpenClaim := { program := "ytiancppdcfahaaadoor", sum := "0fda052e84f16840bf0f395b16e6b19306a2c8fd302c7e5e40c99413b508a719", func := "polyglot/polyglotlaw4.DecForms", spec := "decForms", inPlace := ["internal/bytealg.IndexByteString", "internal/bytealg.IndexString"], named := ["unicode/utf8.first", "unicode/utf8.acceptRanges", "internal/bytealg.MaxLen"], apart := false, laid := [("unicode/utf8.acceptRanges", laid_unicode_utf8_acceptRanges), ("unicode/utf8.first", laid_unicode_utf8_first)] }
def DecFormsSaid : Prop := decFormsRow.holds Tryd.pinned (OpenSpec.ofChange decFormsSpec)

/-- ITS FALSE NEIGHBOUR: 'it returns false'. Refute it at one input. -/
def decFormsWrong : ChangeSpec := { name := "decForms", fn := fun _ => fun
  | [d1, d2, d3, d4] => { results := [.lit (.bool false)], args := [d1, d2, d3, d4] }
  | _ => none }
def DecFormsWrongFalsely : Prop := decFormsRow.holds Tryd.pinned (OpenSpec.ofChange decFormsWrong)

/-- 'polyglotlaw4.DecBad': WHATEVER THE INPUT: true; the input reads as it did. -/
def decBadSpec : ChangeSpec := { name := "decBad", fn := fun _ => fun
  | [d1, d2] => { results := [.lit (.bool true)], args := [d1, d2] }
  | _ => none }
def decBadRow : OpenClaim := { program := "ytiancppdcfahaaadoor", sum := "0fda052e84f16840bf0f395b16e6b19306a2c8fd302c7e5e40c99413b508a719", func := "polyglot/polyglotlaw4.DecBad", spec := "decBad", inPlace := ["internal/bytealg.IndexByteString", "internal/bytealg.IndexString"], named := ["unicode/utf8.first", "unicode/utf8.acceptRanges", "internal/bytealg.MaxLen"], apart := false, laid := [("unicode/utf8.acceptRanges", laid_unicode_utf8_acceptRanges), ("unicode/utf8.first", laid_unicode_utf8_first)] }
def DecBadSaid : Prop := decBadRow.holds Tryd.pinned (OpenSpec.ofChange decBadSpec)

/-- ITS FALSE NEIGHBOUR: 'it returns false'. Refute it at one input. -/
def decBadWrong : ChangeSpec := { name := "decBad", fn := fun _ => fun
  | [d1, d2] => { results := [.lit (.bool false)], args := [d1, d2] }
  | _ => none }
def DecBadWrongFalsely : Prop := decBadRow.holds Tryd.pinned (OpenSpec.ofChange decBadWrong)

/-- 'polyglotlaw4.DecBounds': WHATEVER THE INPUT: true; the input reads as it did. -/
def decBoundsSpec : ChangeSpec := { name := "decBounds", fn := fun _ => fun
  | [d1, d2] => { results := [.lit (.bool true)], args := [d1, d2] }
  | _ => none }
def decBoundsRow : OpenClaim := { program := "ytiancppdcfahaaadoor", sum := "0fda052e84f16840bf0f395b16e6b19306a2c8fd302c7e5e40c99413b508a719", func := "polyglot/polyglotlaw4.DecBounds", spec := "decBounds", inPlace := ["internal/bytealg.IndexByteString", "internal/bytealg.IndexString"], named := ["unicode/utf8.first", "unicode/utf8.acceptRanges", "internal/bytealg.MaxLen"], apart := false, laid := [("unicode/utf8.acceptRanges", laid_unicode_utf8_acceptRanges), ("unicode/utf8.first", laid_unicode_utf8_first)] }
def DecBoundsSaid : Prop := decBoundsRow.holds Tryd.pinned (OpenSpec.ofChange decBoundsSpec)

/-- ITS FALSE NEIGHBOUR: 'it returns false'. Refute it at one input. -/
def decBoundsWrong : ChangeSpec := { name := "decBounds", fn := fun _ => fun
  | [d1, d2] => { results := [.lit (.bool false)], args := [d1, d2] }
  | _ => none }
def DecBoundsWrongFalsely : Prop := decBoundsRow.holds Tryd.pinned (OpenSpec.ofChange decBoundsWrong)

/- THE SECOND FORM. 'bulk': how many values and letters a reading holds, each counted each time it is reached (what is shared counts as often as it is met; a slice's spare places count too). A statement '..UptoSaid' is the law's where the arguments, and the package variables that the reading takes, are together of bulk at most 1048576: NARROWER than '..Said'. Prove '..Said' where nothing that the law and all that it calls make is longer than what came in: it says more and counts as full. Else prove '..UptoSaid'. A law counts once. -/
mutual
def uptoBulk {H : Type} : DataW H → Nat
  | .lit (.string bytes) => bytes.length + 1
  | .lit _ => 1
  | .nil => 1
  | .ptr d => uptoBulk d + 1
  | .slice elems spare => uptoBulkAll elems + uptoBulkAll spare + 1
  | .agg parts => uptoBulkAll parts + 1
  | .iface _ d => uptoBulk d + 1
  | .map entries => uptoBulkEntries entries + 1
  | .held _ => 1
def uptoBulkAll {H : Type} : List (DataW H) → Nat
  | [] => 0
  | d :: r => uptoBulk d + uptoBulkAll r
def uptoBulkEntries {H : Type} : List (Lit × DataW H) → Nat
  | [] => 0
  | x :: r => uptoBulkEntry x + uptoBulkEntries r
def uptoBulkEntry {H : Type} : Lit × DataW H → Nat
  | (.string bytes, d) => bytes.length + uptoBulk d + 1
  | (_, d) => uptoBulk d + 1
 end
def uptoSmall : (H : Type) → List (DataW H) → Bool := fun _ ds => decide (uptoBulkAll ds ≤ 1048576)
def OpenSpec.upto (s : _root_.Go.ChangeSpec) : _root_.Go.OpenSpec := { _root_.Go.OpenSpec.ofChange s with cond := some uptoSmall }

/-- 'polyglotlaw4.DecTells', WHERE WHAT IT READS IS OF BULK AT MOST 1048576: true; the input reads as it did. -/
def decTellsUptoRow : OpenClaim := { program := "ytiancppdcfahaaadoor", sum := "0fda052e84f16840bf0f395b16e6b19306a2c8fd302c7e5e40c99413b508a719", func := "polyglot/polyglotlaw4.DecTells", spec := "decTells", inPlace := ["internal/bytealg.IndexByteString", "internal/bytealg.IndexString"], named := ["unicode/utf8.first", "unicode/utf8.acceptRanges", "internal/bytealg.MaxLen"], apart := false, laid := [("unicode/utf8.acceptRanges", laid_unicode_utf8_acceptRanges), ("unicode/utf8.first", laid_unicode_utf8_first)], narrowed := true }
def DecTellsUptoSaid : Prop := decTellsUptoRow.holds Tryd.pinned (OpenSpec.upto decTellsSpec)

/-- 'polyglotlaw4.DecBack', WHERE WHAT IT READS IS OF BULK AT MOST 1048576: true; the input reads as it did. -/
def decBackUptoRow : OpenClaim := { program := "ytiancppdcfahaaadoor", sum := "0fda052e84f16840bf0f395b16e6b19306a2c8fd302c7e5e40c99413b508a719", func := "polyglot/polyglotlaw4.DecBack", spec := "decBack", inPlace := ["internal/bytealg.IndexByteString", "internal/bytealg.IndexString"], named := ["unicode/utf8.first", "unicode/utf8.acceptRanges", "internal/bytealg.MaxLen"], apart := false, laid := [("unicode/utf8.acceptRanges", laid_unicode_utf8_acceptRanges), ("unicode/utf8.first", laid_unicode_utf8_first)], narrowed := true }
def DecBackUptoSaid : Prop := decBackUptoRow.holds Tryd.pinned (OpenSpec.upto decBackSpec)

/-- 'polyglotlaw4.DecForms', WHERE WHAT IT READS IS OF BULK AT MOST 1048576: true; the input reads as it did. -/
def decFormsUptoRow : OpenClaim := { program := "ytiancppdcfahaaadoor", sum := "0fda052e84f16840bf0f395b16e6b19306a2c8fd302c7e5e40c99413b508a719", func := "polyglot/polyglotlaw4.DecForms", spec := "decForms", inPlace := ["internal/bytealg.IndexByteString", "internal/bytealg.IndexString"], named := ["unicode/utf8.first", "unicode/utf8.acceptRanges", "internal/bytealg.MaxLen"], apart := false, laid := [("unicode/utf8.acceptRanges", laid_unicode_utf8_acceptRanges), ("unicode/utf8.first", laid_unicode_utf8_first)], narrowed := true }
def DecFormsUptoSaid : Prop := decFormsUptoRow.holds Tryd.pinned (OpenSpec.upto decFormsSpec)

/-- 'polyglotlaw4.DecBad', WHERE WHAT IT READS IS OF BULK AT MOST 1048576: true; the input reads as it did. -/
def decBadUptoRow : OpenClaim := { program := "ytiancppdcfahaaadoor", sum := "0fda052e84f16840bf0f395b16e6b19306a2c8fd302c7e5e40c99413b508a719", func := "polyglot/polyglotlaw4.DecBad", spec := "decBad", inPlace := ["internal/bytealg.IndexByteString", "internal/bytealg.IndexString"], named := ["unicode/utf8.first", "unicode/utf8.acceptRanges", "internal/bytealg.MaxLen"], apart := false, laid := [("unicode/utf8.acceptRanges", laid_unicode_utf8_acceptRanges), ("unicode/utf8.first", laid_unicode_utf8_first)], narrowed := true }
def DecBadUptoSaid : Prop := decBadUptoRow.holds Tryd.pinned (OpenSpec.upto decBadSpec)

/-- 'polyglotlaw4.DecBounds', WHERE WHAT IT READS IS OF BULK AT MOST 1048576: true; the input reads as it did. -/
def decBoundsUptoRow : OpenClaim := { program := "ytiancppdcfahaaadoor", sum := "0fda052e84f16840bf0f395b16e6b19306a2c8fd302c7e5e40c99413b508a719", func := "polyglot/polyglotlaw4.DecBounds", spec := "decBounds", inPlace := ["internal/bytealg.IndexByteString", "internal/bytealg.IndexString"], named := ["unicode/utf8.first", "unicode/utf8.acceptRanges", "internal/bytealg.MaxLen"], apart := false, laid := [("unicode/utf8.acceptRanges", laid_unicode_utf8_acceptRanges), ("unicode/utf8.first", laid_unicode_utf8_first)], narrowed := true }
def DecBoundsUptoSaid : Prop := decBoundsUptoRow.holds Tryd.pinned (OpenSpec.upto decBoundsSpec)

end Rows
end Go.Proofs.YtiancppdcfahaaaDoor

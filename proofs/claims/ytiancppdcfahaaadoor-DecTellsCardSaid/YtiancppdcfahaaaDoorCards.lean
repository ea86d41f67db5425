/-
  DERIVED. GIVEN WITH THE SEED: THE CARDS: each row of YtiancppdcfahaaaDoorRows.lean that lists a variable, with what it lists TIED to the program's text (the seventh form; the later family's looks); each row that meets fmt, with fmt's text TOLD by the authors' own Lean function (tested against real Go, not proved from fmt's source: count such statements apart). THE CARD IS WHAT COUNTS. Prove the row's statement (the work); the ties are given (YtiancppdcfahaaaDoorTie.lean); close each card by the builder's one call (the guide's Derived/Test/ToyasCard.lean, 'card_holds'). Laid BY PROGRAM, IN A SANDBOX (cutbox-door.mjs). By AI agents, Wed Nov 11 2026. No macro, syntax, notation, axiom, sorry.
-/
import Derived.Test.YtiancppdcfahaaaDoorRows
import GoSem.ClaimSeven
namespace Go.Proofs.YtiancppdcfahaaaDoor
namespace Rows

/-- THE TIED CARD OF 'polyglotlaw4.DecTells'. -/
def decTellsCard : Claim7 := { stood := { row := decTellsRow, standIns := [], harness := (true, "fbb7e692b58981a406ca64c6b2cf1c5cfb6f04c88fea94405573494faec06af0"), looks := false }, kinds := [], alts := [], laidByText := true, laidKinds := [.data, .pinned], laidTests := true, laidLooks := .later }
def DecTellsCardSaid : Prop := Claim7.holds Tryd.pinned (.plain (OpenSpec.ofChange decTellsSpec)) decTellsCard

/-- THE TIED CARD OF 'polyglotlaw4.DecBack'. -/
def decBackCard : Claim7 := { stood := { row := decBackRow, standIns := [], harness := (true, "fbb7e692b58981a406ca64c6b2cf1c5cfb6f04c88fea94405573494faec06af0"), looks := false }, kinds := [], alts := [], laidByText := true, laidKinds := [.data, .pinned], laidTests := true, laidLooks := .later }
def DecBackCardSaid : Prop := Claim7.holds Tryd.pinned (.plain (OpenSpec.ofChange decBackSpec)) decBackCard

/-- THE TIED CARD OF 'polyglotlaw4.DecForms'. -/
def decFormsCard : Claim7 := { stood := { row := decFormsRow, standIns := [], harness := (true, "fbb7e692b58981a406ca64c6b2cf1c5cfb6f04c88fea94405573494faec06af0"), looks := false }, kinds := [], alts := [], laidByText := true, laidKinds := [.data, .pinned], laidTests := true, laidLooks := .later }
def DecFormsCardSaid : Prop := Claim7.holds Tryd.pinned (.plain (OpenSpec.ofChange decFormsSpec)) decFormsCard

/-- THE TIED CARD OF 'polyglotlaw4.DecBad'. -/
def decBadCard : Claim7 := { stood := { row := decBadRow, standIns := [], harness := (true, "fbb7e692b58981a406ca64c6b2cf1c5cfb6f04c88fea94405573494faec06af0"), looks := false }, kinds := [], alts := [], laidByText := true, laidKinds := [.data, .pinned], laidTests := true, laidLooks := .later }
def DecBadCardSaid : Prop := Claim7.holds Tryd.pinned (.plain (OpenSpec.ofChange decBadSpec)) decBadCard

/-- THE TIED CARD OF 'polyglotlaw4.DecBounds'. -/
def decBoundsCard : Claim7 := { stood := { row := decBoundsRow, standIns := [], harness := (true, "fbb7e692b58981a406ca64c6b2cf1c5cfb6f04c88fea94405573494faec06af0"), looks := false }, kinds := [], alts := [], laidByText := true, laidKinds := [.data, .pinned], laidTests := true, laidLooks := .later }
def DecBoundsCardSaid : Prop := Claim7.holds Tryd.pinned (.plain (OpenSpec.ofChange decBoundsSpec)) decBoundsCard

/-- THE SECOND FORM's CARD OF 'polyglotlaw4.DecTells'. -/
def decTellsUptoCard : Claim7 := { stood := { row := decTellsUptoRow, standIns := [], harness := (true, "fbb7e692b58981a406ca64c6b2cf1c5cfb6f04c88fea94405573494faec06af0"), looks := false }, kinds := [], alts := [], laidByText := true, laidKinds := [.data, .pinned], laidTests := true, laidLooks := .later }
def DecTellsUptoCardSaid : Prop := Claim7.holds Tryd.pinned (.plain (OpenSpec.upto decTellsSpec)) decTellsUptoCard

/-- THE SECOND FORM's CARD OF 'polyglotlaw4.DecBack'. -/
def decBackUptoCard : Claim7 := { stood := { row := decBackUptoRow, standIns := [], harness := (true, "fbb7e692b58981a406ca64c6b2cf1c5cfb6f04c88fea94405573494faec06af0"), looks := false }, kinds := [], alts := [], laidByText := true, laidKinds := [.data, .pinned], laidTests := true, laidLooks := .later }
def DecBackUptoCardSaid : Prop := Claim7.holds Tryd.pinned (.plain (OpenSpec.upto decBackSpec)) decBackUptoCard

/-- THE SECOND FORM's CARD OF 'polyglotlaw4.DecForms'. -/
def decFormsUptoCard : Claim7 := { stood := { row := decFormsUptoRow, standIns := [], harness := (true, "fbb7e692b58981a406ca64c6b2cf1c5cfb6f04c88fea94405573494faec06af0"), looks := false }, kinds := [], alts := [], laidByText := true, laidKinds := [.data, .pinned], laidTests := true, laidLooks := .later }
def DecFormsUptoCardSaid : Prop := Claim7.holds Tryd.pinned (.plain (OpenSpec.upto decFormsSpec)) decFormsUptoCard

/-- THE SECOND FORM's CARD OF 'polyglotlaw4.DecBad'. -/
def decBadUptoCard : Claim7 := { stood := { row := decBadUptoRow, standIns := [], harness := (true, "fbb7e692b58981a406ca64c6b2cf1c5cfb6f04c88fea94405573494faec06af0"), looks := false }, kinds := [], alts := [], laidByText := true, laidKinds := [.data, .pinned], laidTests := true, laidLooks := .later }
def DecBadUptoCardSaid : Prop := Claim7.holds Tryd.pinned (.plain (OpenSpec.upto decBadSpec)) decBadUptoCard

/-- THE SECOND FORM's CARD OF 'polyglotlaw4.DecBounds'. -/
def decBoundsUptoCard : Claim7 := { stood := { row := decBoundsUptoRow, standIns := [], harness := (true, "fbb7e692b58981a406ca64c6b2cf1c5cfb6f04c88fea94405573494faec06af0"), looks := false }, kinds := [], alts := [], laidByText := true, laidKinds := [.data, .pinned], laidTests := true, laidLooks := .later }
def DecBoundsUptoCardSaid : Prop := Claim7.holds Tryd.pinned (.plain (OpenSpec.upto decBoundsSpec)) decBoundsUptoCard
end Rows
end Go.Proofs.YtiancppdcfahaaaDoor

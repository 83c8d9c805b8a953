/-
  DERIVED. GIVEN WITH THE SEED: THE CARDS: each row of YtcabkkfehdcagaaDoorRows.lean that lists a variable, with what it lists TIED to the program's text (the seventh form; the later family's looks); each row that meets fmt, with fmt's text TOLD by the authors' own Lean function (tested against real Go, not proved from fmt's source: count such statements apart). THE CARD IS WHAT COUNTS. Prove the row's statement (the work); the ties are given (YtcabkkfehdcagaaDoorTie.lean); close each card by the builder's one call (the guide's Derived/Test/ToyasCard.lean, 'card_holds'). Laid BY PROGRAM, IN A SANDBOX (cutbox-door.mjs). By AI agents, Wed Nov 11 2026. No macro, syntax, notation, axiom, sorry.
-/
import Derived.Test.YtcabkkfehdcagaaDoorRows
import GoSem.ClaimSeven
namespace Go.Proofs.YtcabkkfehdcagaaDoor
namespace Rows

/-- THE TIED CARD OF 'filigreelaw01.PlaceTexts'. -/
def placeTextsCard : Claim7 := { stood := { row := placeTextsRow, standIns := [], harness := (true, "e5bb23e8a8fb94cda778889c36d02bf4cc54b1130b2d15df45fedd8ada1945d9"), looks := false }, kinds := [], alts := [], laidByText := true, laidKinds := [.data, .data, .data, .listed, .data], laidTests := true, laidLooks := .later }
def PlaceTextsCardSaid : Prop := Claim7.holds Tryd.pinned (.plain (OpenSpec.ofChange placeTextsSpec)) placeTextsCard

/-- THE TIED CARD OF 'filigreelaw01.PlaceLines'. -/
def placeLinesCard : Claim7 := { stood := { row := placeLinesRow, standIns := [], harness := (true, "e5bb23e8a8fb94cda778889c36d02bf4cc54b1130b2d15df45fedd8ada1945d9"), looks := false }, kinds := [], alts := [], laidByText := true, laidKinds := [.data, .data, .data, .listed, .data], laidTests := true, laidLooks := .later }
def PlaceLinesCardSaid : Prop := Claim7.holds Tryd.pinned (.plain (OpenSpec.ofChange placeLinesSpec)) placeLinesCard

/-- THE TIED CARD OF 'filigreelaw01.PlaceMarks'. -/
def placeMarksCard : Claim7 := { stood := { row := placeMarksRow, standIns := [], harness := (true, "e5bb23e8a8fb94cda778889c36d02bf4cc54b1130b2d15df45fedd8ada1945d9"), looks := false }, kinds := [], alts := [], laidByText := true, laidKinds := [.data, .data, .data, .listed, .data], laidTests := true, laidLooks := .later }
def PlaceMarksCardSaid : Prop := Claim7.holds Tryd.pinned (.plain (OpenSpec.ofChange placeMarksSpec)) placeMarksCard

/-- THE TIED CARD OF 'filigreelaw01.PlaceOrders'. -/
def placeOrdersCard : Claim7 := { stood := { row := placeOrdersRow, standIns := [], harness := (true, "e5bb23e8a8fb94cda778889c36d02bf4cc54b1130b2d15df45fedd8ada1945d9"), looks := false }, kinds := [], alts := [], laidByText := true, laidKinds := [.data, .data, .data, .listed, .data], laidTests := true, laidLooks := .later }
def PlaceOrdersCardSaid : Prop := Claim7.holds Tryd.pinned (.plain (OpenSpec.ofChange placeOrdersSpec)) placeOrdersCard

/-- THE TIED CARD OF 'filigreelaw01.PlaceFirst'. -/
def placeFirstCard : Claim7 := { stood := { row := placeFirstRow, standIns := [], harness := (true, "e5bb23e8a8fb94cda778889c36d02bf4cc54b1130b2d15df45fedd8ada1945d9"), looks := false }, kinds := [], alts := [], laidByText := true, laidKinds := [.data, .data, .data, .listed, .data], laidTests := true, laidLooks := .later }
def PlaceFirstCardSaid : Prop := Claim7.holds Tryd.pinned (.plain (OpenSpec.ofChange placeFirstSpec)) placeFirstCard

/-- THE SECOND FORM's CARD OF 'filigreelaw01.PlaceTexts'. -/
def placeTextsUptoCard : Claim7 := { stood := { row := placeTextsUptoRow, standIns := [], harness := (true, "e5bb23e8a8fb94cda778889c36d02bf4cc54b1130b2d15df45fedd8ada1945d9"), looks := false }, kinds := [], alts := [], laidByText := true, laidKinds := [.data, .data, .data, .listed, .data], laidTests := true, laidLooks := .later }
def PlaceTextsUptoCardSaid : Prop := Claim7.holds Tryd.pinned (.plain (OpenSpec.upto placeTextsSpec)) placeTextsUptoCard

/-- THE SECOND FORM's CARD OF 'filigreelaw01.PlaceLines'. -/
def placeLinesUptoCard : Claim7 := { stood := { row := placeLinesUptoRow, standIns := [], harness := (true, "e5bb23e8a8fb94cda778889c36d02bf4cc54b1130b2d15df45fedd8ada1945d9"), looks := false }, kinds := [], alts := [], laidByText := true, laidKinds := [.data, .data, .data, .listed, .data], laidTests := true, laidLooks := .later }
def PlaceLinesUptoCardSaid : Prop := Claim7.holds Tryd.pinned (.plain (OpenSpec.upto placeLinesSpec)) placeLinesUptoCard

/-- THE SECOND FORM's CARD OF 'filigreelaw01.PlaceMarks'. -/
def placeMarksUptoCard : Claim7 := { stood := { row := placeMarksUptoRow, standIns := [], harness := (true, "e5bb23e8a8fb94cda778889c36d02bf4cc54b1130b2d15df45fedd8ada1945d9"), looks := false }, kinds := [], alts := [], laidByText := true, laidKinds := [.data, .data, .data, .listed, .data], laidTests := true, laidLooks := .later }
def PlaceMarksUptoCardSaid : Prop := Claim7.holds Tryd.pinned (.plain (OpenSpec.upto placeMarksSpec)) placeMarksUptoCard

/-- THE SECOND FORM's CARD OF 'filigreelaw01.PlaceOrders'. -/
def placeOrdersUptoCard : Claim7 := { stood := { row := placeOrdersUptoRow, standIns := [], harness := (true, "e5bb23e8a8fb94cda778889c36d02bf4cc54b1130b2d15df45fedd8ada1945d9"), looks := false }, kinds := [], alts := [], laidByText := true, laidKinds := [.data, .data, .data, .listed, .data], laidTests := true, laidLooks := .later }
def PlaceOrdersUptoCardSaid : Prop := Claim7.holds Tryd.pinned (.plain (OpenSpec.upto placeOrdersSpec)) placeOrdersUptoCard

/-- THE SECOND FORM's CARD OF 'filigreelaw01.PlaceFirst'. -/
def placeFirstUptoCard : Claim7 := { stood := { row := placeFirstUptoRow, standIns := [], harness := (true, "e5bb23e8a8fb94cda778889c36d02bf4cc54b1130b2d15df45fedd8ada1945d9"), looks := false }, kinds := [], alts := [], laidByText := true, laidKinds := [.data, .data, .data, .listed, .data], laidTests := true, laidLooks := .later }
def PlaceFirstUptoCardSaid : Prop := Claim7.holds Tryd.pinned (.plain (OpenSpec.upto placeFirstSpec)) placeFirstUptoCard
end Rows
end Go.Proofs.YtcabkkfehdcagaaDoor

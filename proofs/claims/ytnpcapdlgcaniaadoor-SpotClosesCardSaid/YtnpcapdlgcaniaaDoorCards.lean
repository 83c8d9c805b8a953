/-
  DERIVED. GIVEN WITH THE SEED: THE CARDS: each row of YtnpcapdlgcaniaaDoorRows.lean that lists a variable, with what it lists TIED to the program's text (the seventh form; the later family's looks); each row that meets fmt, with fmt's text TOLD by the authors' own Lean function (tested against real Go, not proved from fmt's source: count such statements apart). THE CARD IS WHAT COUNTS. Prove the row's statement (the work); the ties are given (YtnpcapdlgcaniaaDoorTie.lean); close each card by the builder's one call (the guide's Derived/Test/ToyasCard.lean, 'card_holds'). Laid BY PROGRAM, IN A SANDBOX (cutbox-door.mjs). By AI agents, Wed Nov 11 2026. No macro, syntax, notation, axiom, sorry.
-/
import Derived.Test.YtnpcapdlgcaniaaDoorRows
import GoSem.ClaimSeven
namespace Go.Proofs.YtnpcapdlgcaniaaDoor
namespace Rows

/-- THE TIED CARD OF 'filigreelaw10.SpotAts'. -/
def spotAtsCard : Claim7 := { stood := { row := spotAtsRow, standIns := [], harness := (true, "7a52a058f0c99e4e1263907962d7ad8fa75513b96c4f58d78309a4dc1382e623"), looks := false }, kinds := [], alts := [], laidByText := true, laidKinds := [.data, .data, .data], laidTests := true, laidLooks := .later }
def SpotAtsCardSaid : Prop := Claim7.holds Tryd.pinned (.plain (OpenSpec.ofChange spotAtsSpec)) spotAtsCard

/-- THE TIED CARD OF 'filigreelaw10.SpotAlls'. -/
def spotAllsCard : Claim7 := { stood := { row := spotAllsRow, standIns := [], harness := (true, "7a52a058f0c99e4e1263907962d7ad8fa75513b96c4f58d78309a4dc1382e623"), looks := false }, kinds := [], alts := [], laidByText := true, laidKinds := [.data, .data, .data], laidTests := true, laidLooks := .later }
def SpotAllsCardSaid : Prop := Claim7.holds Tryd.pinned (.plain (OpenSpec.ofChange spotAllsSpec)) spotAllsCard

/-- THE TIED CARD OF 'filigreelaw10.SpotReplaces'. -/
def spotReplacesCard : Claim7 := { stood := { row := spotReplacesRow, standIns := [], harness := (true, "7a52a058f0c99e4e1263907962d7ad8fa75513b96c4f58d78309a4dc1382e623"), looks := false }, kinds := [], alts := [], laidByText := true, laidKinds := [.data, .data, .data], laidTests := true, laidLooks := .later }
def SpotReplacesCardSaid : Prop := Claim7.holds Tryd.pinned (.plain (OpenSpec.ofChange spotReplacesSpec)) spotReplacesCard

/-- THE TIED CARD OF 'filigreelaw10.SpotOrders'. -/
def spotOrdersCard : Claim7 := { stood := { row := spotOrdersRow, standIns := [], harness := (true, "7a52a058f0c99e4e1263907962d7ad8fa75513b96c4f58d78309a4dc1382e623"), looks := false }, kinds := [], alts := [], laidByText := true, laidKinds := [.data, .data, .data], laidTests := true, laidLooks := .later }
def SpotOrdersCardSaid : Prop := Claim7.holds Tryd.pinned (.plain (OpenSpec.ofChange spotOrdersSpec)) spotOrdersCard

/-- THE TIED CARD OF 'filigreelaw10.SpotCloses'. -/
def spotClosesCard : Claim7 := { stood := { row := spotClosesRow, standIns := [], harness := (true, "7a52a058f0c99e4e1263907962d7ad8fa75513b96c4f58d78309a4dc1382e623"), looks := false }, kinds := [], alts := [], laidByText := true, laidKinds := [.data, .data, .data], laidTests := true, laidLooks := .later }
def SpotClosesCardSaid : Prop := Claim7.holds Tryd.pinned (.plain (OpenSpec.ofChange spotClosesSpec)) spotClosesCard

/-- THE TIED CARD OF 'filigreelaw10.SpotTexts'. -/
def spotTextsCard : Claim7 := { stood := { row := spotTextsRow, standIns := [], harness := (true, "7a52a058f0c99e4e1263907962d7ad8fa75513b96c4f58d78309a4dc1382e623"), looks := false }, kinds := [], alts := [], laidByText := true, laidKinds := [.data, .data, .data, .data, .pinned], laidTests := true, laidLooks := .later }
def SpotTextsCardSaid : Prop := Claim7.holds Tryd.pinned (.plain (OpenSpec.ofChange spotTextsSpec)) spotTextsCard

/-- THE SECOND FORM's CARD OF 'filigreelaw10.SpotAts'. -/
def spotAtsUptoCard : Claim7 := { stood := { row := spotAtsUptoRow, standIns := [], harness := (true, "7a52a058f0c99e4e1263907962d7ad8fa75513b96c4f58d78309a4dc1382e623"), looks := false }, kinds := [], alts := [], laidByText := true, laidKinds := [.data, .data, .data], laidTests := true, laidLooks := .later }
def SpotAtsUptoCardSaid : Prop := Claim7.holds Tryd.pinned (.plain (OpenSpec.upto spotAtsSpec)) spotAtsUptoCard

/-- THE SECOND FORM's CARD OF 'filigreelaw10.SpotAlls'. -/
def spotAllsUptoCard : Claim7 := { stood := { row := spotAllsUptoRow, standIns := [], harness := (true, "7a52a058f0c99e4e1263907962d7ad8fa75513b96c4f58d78309a4dc1382e623"), looks := false }, kinds := [], alts := [], laidByText := true, laidKinds := [.data, .data, .data], laidTests := true, laidLooks := .later }
def SpotAllsUptoCardSaid : Prop := Claim7.holds Tryd.pinned (.plain (OpenSpec.upto spotAllsSpec)) spotAllsUptoCard

/-- THE SECOND FORM's CARD OF 'filigreelaw10.SpotReplaces'. -/
def spotReplacesUptoCard : Claim7 := { stood := { row := spotReplacesUptoRow, standIns := [], harness := (true, "7a52a058f0c99e4e1263907962d7ad8fa75513b96c4f58d78309a4dc1382e623"), looks := false }, kinds := [], alts := [], laidByText := true, laidKinds := [.data, .data, .data], laidTests := true, laidLooks := .later }
def SpotReplacesUptoCardSaid : Prop := Claim7.holds Tryd.pinned (.plain (OpenSpec.upto spotReplacesSpec)) spotReplacesUptoCard

/-- THE SECOND FORM's CARD OF 'filigreelaw10.SpotOrders'. -/
def spotOrdersUptoCard : Claim7 := { stood := { row := spotOrdersUptoRow, standIns := [], harness := (true, "7a52a058f0c99e4e1263907962d7ad8fa75513b96c4f58d78309a4dc1382e623"), looks := false }, kinds := [], alts := [], laidByText := true, laidKinds := [.data, .data, .data], laidTests := true, laidLooks := .later }
def SpotOrdersUptoCardSaid : Prop := Claim7.holds Tryd.pinned (.plain (OpenSpec.upto spotOrdersSpec)) spotOrdersUptoCard

/-- THE SECOND FORM's CARD OF 'filigreelaw10.SpotCloses'. -/
def spotClosesUptoCard : Claim7 := { stood := { row := spotClosesUptoRow, standIns := [], harness := (true, "7a52a058f0c99e4e1263907962d7ad8fa75513b96c4f58d78309a4dc1382e623"), looks := false }, kinds := [], alts := [], laidByText := true, laidKinds := [.data, .data, .data], laidTests := true, laidLooks := .later }
def SpotClosesUptoCardSaid : Prop := Claim7.holds Tryd.pinned (.plain (OpenSpec.upto spotClosesSpec)) spotClosesUptoCard

/-- THE SECOND FORM's CARD OF 'filigreelaw10.SpotTexts'. -/
def spotTextsUptoCard : Claim7 := { stood := { row := spotTextsUptoRow, standIns := [], harness := (true, "7a52a058f0c99e4e1263907962d7ad8fa75513b96c4f58d78309a4dc1382e623"), looks := false }, kinds := [], alts := [], laidByText := true, laidKinds := [.data, .data, .data, .data, .pinned], laidTests := true, laidLooks := .later }
def SpotTextsUptoCardSaid : Prop := Claim7.holds Tryd.pinned (.plain (OpenSpec.upto spotTextsSpec)) spotTextsUptoCard
end Rows
end Go.Proofs.YtnpcapdlgcaniaaDoor

/-
  DERIVED. GIVEN WITH THE SEED: THE CARDS: each row of YtdoohocdaacnaaaDoorRows.lean that lists a variable, with what it lists TIED to the program's text (the seventh form; the later family's looks); each row that meets fmt, with fmt's text TOLD by the authors' own Lean function (tested against real Go, not proved from fmt's source: count such statements apart). THE CARD IS WHAT COUNTS. Prove the row's statement (the work); the ties are given (YtdoohocdaacnaaaDoorTie.lean); close each card by the builder's one call (the guide's Derived/Test/ToyasCard.lean, 'card_holds'). Laid BY PROGRAM, IN A SANDBOX (cutbox-door.mjs). By AI agents, Wed Nov 11 2026. No macro, syntax, notation, axiom, sorry.
-/
import Derived.Test.YtdoohocdaacnaaaDoorRows
import GoSem.ClaimSeven
namespace Go.Proofs.YtdoohocdaacnaaaDoor
namespace Rows

/-- THE TIED CARD OF 'filigreelaw05.VocabLong'. -/
def vocabLongCard : Claim7 := { stood := { row := vocabLongRow, standIns := [], harness := (true, "ff5827de89e22f32fd3195a9fddfb240bfd9275773e620cf7c70758e60ce6486"), looks := false }, kinds := [], alts := [], laidByText := true, laidKinds := [.data, .data, .data], laidTests := true, laidLooks := .later }
def VocabLongCardSaid : Prop := Claim7.holds Tryd.pinned (.plain (OpenSpec.ofChange vocabLongSpec)) vocabLongCard

/-- THE TIED CARD OF 'filigreelaw05.VocabFresh'. -/
def vocabFreshCard : Claim7 := { stood := { row := vocabFreshRow, standIns := [], harness := (true, "ff5827de89e22f32fd3195a9fddfb240bfd9275773e620cf7c70758e60ce6486"), looks := false }, kinds := [], alts := [], laidByText := true, laidKinds := [.data, .data, .data], laidTests := true, laidLooks := .later }
def VocabFreshCardSaid : Prop := Claim7.holds Tryd.pinned (.plain (OpenSpec.ofChange vocabFreshSpec)) vocabFreshCard

/-- THE TIED CARD OF 'filigreelaw05.VocabChecks'. -/
def vocabChecksCard : Claim7 := { stood := { row := vocabChecksRow, standIns := [], harness := (true, "ff5827de89e22f32fd3195a9fddfb240bfd9275773e620cf7c70758e60ce6486"), looks := false }, kinds := [], alts := [], laidByText := true, laidKinds := [.data, .data, .data], laidTests := true, laidLooks := .later }
def VocabChecksCardSaid : Prop := Claim7.holds Tryd.pinned (.plain (OpenSpec.ofChange vocabChecksSpec)) vocabChecksCard

/-- THE TIED CARD OF 'filigreelaw05.VocabFinds'. -/
def vocabFindsCard : Claim7 := { stood := { row := vocabFindsRow, standIns := [], harness := (true, "ff5827de89e22f32fd3195a9fddfb240bfd9275773e620cf7c70758e60ce6486"), looks := false }, kinds := [], alts := [], laidByText := true, laidKinds := [.data, .data, .data], laidTests := true, laidLooks := .later }
def VocabFindsCardSaid : Prop := Claim7.holds Tryd.pinned (.plain (OpenSpec.ofChange vocabFindsSpec)) vocabFindsCard

/-- THE TIED CARD OF 'filigreelaw05.VocabNil'. -/
def vocabNilCard : Claim7 := { stood := { row := vocabNilRow, standIns := [], harness := (true, "ff5827de89e22f32fd3195a9fddfb240bfd9275773e620cf7c70758e60ce6486"), looks := false }, kinds := [], alts := [], laidByText := true, laidKinds := [.data, .data, .data], laidTests := true, laidLooks := .later }
def VocabNilCardSaid : Prop := Claim7.holds Tryd.pinned (.plain (OpenSpec.ofChange vocabNilSpec)) vocabNilCard

/-- THE SECOND FORM's CARD OF 'filigreelaw05.VocabLong'. -/
def vocabLongUptoCard : Claim7 := { stood := { row := vocabLongUptoRow, standIns := [], harness := (true, "ff5827de89e22f32fd3195a9fddfb240bfd9275773e620cf7c70758e60ce6486"), looks := false }, kinds := [], alts := [], laidByText := true, laidKinds := [.data, .data, .data], laidTests := true, laidLooks := .later }
def VocabLongUptoCardSaid : Prop := Claim7.holds Tryd.pinned (.plain (OpenSpec.upto vocabLongSpec)) vocabLongUptoCard

/-- THE SECOND FORM's CARD OF 'filigreelaw05.VocabFresh'. -/
def vocabFreshUptoCard : Claim7 := { stood := { row := vocabFreshUptoRow, standIns := [], harness := (true, "ff5827de89e22f32fd3195a9fddfb240bfd9275773e620cf7c70758e60ce6486"), looks := false }, kinds := [], alts := [], laidByText := true, laidKinds := [.data, .data, .data], laidTests := true, laidLooks := .later }
def VocabFreshUptoCardSaid : Prop := Claim7.holds Tryd.pinned (.plain (OpenSpec.upto vocabFreshSpec)) vocabFreshUptoCard

/-- THE SECOND FORM's CARD OF 'filigreelaw05.VocabChecks'. -/
def vocabChecksUptoCard : Claim7 := { stood := { row := vocabChecksUptoRow, standIns := [], harness := (true, "ff5827de89e22f32fd3195a9fddfb240bfd9275773e620cf7c70758e60ce6486"), looks := false }, kinds := [], alts := [], laidByText := true, laidKinds := [.data, .data, .data], laidTests := true, laidLooks := .later }
def VocabChecksUptoCardSaid : Prop := Claim7.holds Tryd.pinned (.plain (OpenSpec.upto vocabChecksSpec)) vocabChecksUptoCard

/-- THE SECOND FORM's CARD OF 'filigreelaw05.VocabFinds'. -/
def vocabFindsUptoCard : Claim7 := { stood := { row := vocabFindsUptoRow, standIns := [], harness := (true, "ff5827de89e22f32fd3195a9fddfb240bfd9275773e620cf7c70758e60ce6486"), looks := false }, kinds := [], alts := [], laidByText := true, laidKinds := [.data, .data, .data], laidTests := true, laidLooks := .later }
def VocabFindsUptoCardSaid : Prop := Claim7.holds Tryd.pinned (.plain (OpenSpec.upto vocabFindsSpec)) vocabFindsUptoCard

/-- THE SECOND FORM's CARD OF 'filigreelaw05.VocabNil'. -/
def vocabNilUptoCard : Claim7 := { stood := { row := vocabNilUptoRow, standIns := [], harness := (true, "ff5827de89e22f32fd3195a9fddfb240bfd9275773e620cf7c70758e60ce6486"), looks := false }, kinds := [], alts := [], laidByText := true, laidKinds := [.data, .data, .data], laidTests := true, laidLooks := .later }
def VocabNilUptoCardSaid : Prop := Claim7.holds Tryd.pinned (.plain (OpenSpec.upto vocabNilSpec)) vocabNilUptoCard
end Rows
end Go.Proofs.YtdoohocdaacnaaaDoor

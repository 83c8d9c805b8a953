/-
  NARROWER THAN 'FOR EVERY INPUT', by the rows' own cells (each row's printed sentence says how): ParseParts: loops.
  DERIVED. THE GIVEN ROWS OF THIS SEAT. 5 by the template 'for every input the law returns true; each argument reads behind the call as it read before'; 0 by the template 'total and deterministic' (their statements: YtboeeaekhijboaaTotals.lean).
  GIVEN WITH THE SEED: the statements are not yours to turn. If you find one false, say at which input.
  Laid BY PROGRAM, IN A SANDBOX (cutbox-rows.mjs): the forced cells as the released guide's own fill.sh prints them over the translation 42a065db9c7a633d… (all of the seat's roots in one cut). By AI agents, Wed Nov 11 2026. No macro, syntax, notation, axiom, sorry.
-/
import Derived.Test.YtboeeaekhijboaaChecked
import GoSem.Claim
import GoSem.ClaimJoined
import GoSem.ClaimMapViews
import Derived.JoinedTies
import Derived.KernelRfl
namespace Go.Proofs.Ytboeeaekhijboaa
/- THE CELL 'sum', in the pinned program and in every row, IS THE sha256 OF THE DUMP (.gsa) THAT YtboeeaekhijboaaProg.lean LOADS. Nothing in Lean hashes anything: it is a label: what it is worth is what the hold of that sum in a sandbox is worth. -/
noncomputable def Try.pinned : Pinned := { name := "ytboeeaekhijboaa", sum := "42a065db9c7a633df3802cd9d040f5b27438e8f57457f3cecce99c697b05c5da", checked := Try.checked }
namespace Rows
def none {H : Type} : Left H := { results := [], args := [] }

/-- 'filigreelaw14.ParseTexts': WHATEVER THE INPUT: true; the input reads as it did. -/
def parseTextsSpec : ChangeSpec := { name := "parseTexts", fn := fun _ => fun
  | [d] => { results := [.lit (.bool true)], args := [d] }
  | _ => none }
def parseTextsRow : OpenClaim := { program := "ytboeeaekhijboaa", sum := "42a065db9c7a633df3802cd9d040f5b27438e8f57457f3cecce99c697b05c5da", func := "filigree/filigreelaw14.ParseTexts", spec := "parseTexts", inPlace := ["internal/bytealg.IndexByteString"], unfollowed := true, recurses := true, apart := false }
def ParseTextsSaid : Prop := parseTextsRow.holds Try.pinned (OpenSpec.ofChange parseTextsSpec)

/-- ITS FALSE NEIGHBOUR: 'it returns false'. Refute it at one input. -/
def parseTextsWrong : ChangeSpec := { name := "parseTexts", fn := fun _ => fun
  | [d] => { results := [.lit (.bool false)], args := [d] }
  | _ => none }
def ParseTextsWrongFalsely : Prop := parseTextsRow.holds Try.pinned (OpenSpec.ofChange parseTextsWrong)

/-- 'filigreelaw14.ParseMany': WHATEVER THE INPUT: true; the input reads as it did. -/
def parseManySpec : ChangeSpec := { name := "parseMany", fn := fun _ => fun
  | [d] => { results := [.lit (.bool true)], args := [d] }
  | _ => none }
def parseManyRow : OpenClaim := { program := "ytboeeaekhijboaa", sum := "42a065db9c7a633df3802cd9d040f5b27438e8f57457f3cecce99c697b05c5da", func := "filigree/filigreelaw14.ParseMany", spec := "parseMany", inPlace := ["internal/bytealg.IndexByteString"], unfollowed := true, recurses := true, apart := false }
def ParseManySaid : Prop := parseManyRow.holds Try.pinned (OpenSpec.ofChange parseManySpec)

/-- ITS FALSE NEIGHBOUR: 'it returns false'. Refute it at one input. -/
def parseManyWrong : ChangeSpec := { name := "parseMany", fn := fun _ => fun
  | [d] => { results := [.lit (.bool false)], args := [d] }
  | _ => none }
def ParseManyWrongFalsely : Prop := parseManyRow.holds Try.pinned (OpenSpec.ofChange parseManyWrong)

/-- 'filigreelaw14.ParseOnes': WHATEVER THE INPUT: true; the input reads as it did. -/
def parseOnesSpec : ChangeSpec := { name := "parseOnes", fn := fun _ => fun
  | [d] => { results := [.lit (.bool true)], args := [d] }
  | _ => none }
def parseOnesRow : OpenClaim := { program := "ytboeeaekhijboaa", sum := "42a065db9c7a633df3802cd9d040f5b27438e8f57457f3cecce99c697b05c5da", func := "filigree/filigreelaw14.ParseOnes", spec := "parseOnes", inPlace := ["internal/bytealg.IndexByteString"], unfollowed := true, recurses := true, apart := false }
def ParseOnesSaid : Prop := parseOnesRow.holds Try.pinned (OpenSpec.ofChange parseOnesSpec)

/-- ITS FALSE NEIGHBOUR: 'it returns false'. Refute it at one input. -/
def parseOnesWrong : ChangeSpec := { name := "parseOnes", fn := fun _ => fun
  | [d] => { results := [.lit (.bool false)], args := [d] }
  | _ => none }
def ParseOnesWrongFalsely : Prop := parseOnesRow.holds Try.pinned (OpenSpec.ofChange parseOnesWrong)

/-- 'filigreelaw14.ParseDeep': WHATEVER THE INPUT: true; the input reads as it did. -/
def parseDeepSpec : ChangeSpec := { name := "parseDeep", fn := fun _ => fun
  | [d1, d2] => { results := [.lit (.bool true)], args := [d1, d2] }
  | _ => none }
def parseDeepRow : OpenClaim := { program := "ytboeeaekhijboaa", sum := "42a065db9c7a633df3802cd9d040f5b27438e8f57457f3cecce99c697b05c5da", func := "filigree/filigreelaw14.ParseDeep", spec := "parseDeep", inPlace := ["internal/bytealg.IndexByteString"], unfollowed := true, recurses := true, apart := false }
def ParseDeepSaid : Prop := parseDeepRow.holds Try.pinned (OpenSpec.ofChange parseDeepSpec)

/-- ITS FALSE NEIGHBOUR: 'it returns false'. Refute it at one input. -/
def parseDeepWrong : ChangeSpec := { name := "parseDeep", fn := fun _ => fun
  | [d1, d2] => { results := [.lit (.bool false)], args := [d1, d2] }
  | _ => none }
def ParseDeepWrongFalsely : Prop := parseDeepRow.holds Try.pinned (OpenSpec.ofChange parseDeepWrong)

/-- 'filigreelaw14.ParseParts': WHATEVER THE INPUT: true; the input reads as it did. -/
def parsePartsSpec : ChangeSpec := { name := "parseParts", fn := fun _ => fun
  | [d1, d2, d3, d4] => { results := [.lit (.bool true)], args := [d1, d2, d3, d4] }
  | _ => none }
def parsePartsRow : OpenClaim := { program := "ytboeeaekhijboaa", sum := "42a065db9c7a633df3802cd9d040f5b27438e8f57457f3cecce99c697b05c5da", func := "filigree/filigreelaw14.ParseParts", spec := "parseParts", inPlace := ["internal/bytealg.IndexByteString"], unfollowed := true, recurses := true, loops := true, apart := false }
def ParsePartsSaid : Prop := parsePartsRow.holds Try.pinned (OpenSpec.ofChange parsePartsSpec)

/-- ITS FALSE NEIGHBOUR: 'it returns false'. Refute it at one input. -/
def parsePartsWrong : ChangeSpec := { name := "parseParts", fn := fun _ => fun
  | [d1, d2, d3, d4] => { results := [.lit (.bool false)], args := [d1, d2, d3, d4] }
  | _ => none }
def ParsePartsWrongFalsely : Prop := parsePartsRow.holds Try.pinned (OpenSpec.ofChange parsePartsWrong)

/- THE SECOND FORM. 'bulk': how many values and letters a reading holds, each counted each time it is reached (what is shared counts as often as it is met; a slice's spare places count too). A statement '..UptoSaid' is the law's where the arguments, and the package variables that the reading takes, are together of bulk at most 1048576: NARROWER than '..Said'. Prove '..Said' where nothing that the law and all that it calls make is longer than what came in: it says more and counts as full. Else prove '..UptoSaid'. A law counts once. -/
mutual
def uptoBulk {H : Type} : DataW H → Nat
  | .lit (.string bytes) => bytes.length + 1
  | .lit _ => 1
  | .nil => 1
  | .ptr d => uptoBulk d + 1
  | .slice elems spare => uptoBulkAll elems + uptoBulkAll spare + 1
  | .agg parts => uptoBulkAll parts + 1
  | .iface _ d => uptoBulk d + 1
  | .map entries => uptoBulkEntries entries + 1
  | .held _ => 1
def uptoBulkAll {H : Type} : List (DataW H) → Nat
  | [] => 0
  | d :: r => uptoBulk d + uptoBulkAll r
def uptoBulkEntries {H : Type} : List (Lit × DataW H) → Nat
  | [] => 0
  | x :: r => uptoBulkEntry x + uptoBulkEntries r
def uptoBulkEntry {H : Type} : Lit × DataW H → Nat
  | (.string bytes, d) => bytes.length + uptoBulk d + 1
  | (_, d) => uptoBulk d + 1
 end
def uptoSmall : (H : Type) → List (DataW H) → Bool := fun _ ds => decide (uptoBulkAll ds ≤ 1048576)
def OpenSpec.upto (s : _root_.Go.ChangeSpec) : _root_.Go.OpenSpec := { _root_.Go.OpenSpec.ofChange s with cond := some uptoSmall }

/-- 'filigreelaw14.ParseTexts', WHERE WHAT IT READS IS OF BULK AT MOST 1048576: true; the input reads as it did. -/
def parseTextsUptoRow : OpenClaim := { program := "ytboeeaekhijboaa", sum := "42a065db9c7a633df3802cd9d040f5b27438e8f57457f3cecce99c697b05c5da", func := "filigree/filigreelaw14.ParseTexts", spec := "parseTexts", inPlace := ["internal/bytealg.IndexByteString"], unfollowed := true, recurses := true, apart := false, narrowed := true }
def ParseTextsUptoSaid : Prop := parseTextsUptoRow.holds Try.pinned (OpenSpec.upto parseTextsSpec)

/-- 'filigreelaw14.ParseMany', WHERE WHAT IT READS IS OF BULK AT MOST 1048576: true; the input reads as it did. -/
def parseManyUptoRow : OpenClaim := { program := "ytboeeaekhijboaa", sum := "42a065db9c7a633df3802cd9d040f5b27438e8f57457f3cecce99c697b05c5da", func := "filigree/filigreelaw14.ParseMany", spec := "parseMany", inPlace := ["internal/bytealg.IndexByteString"], unfollowed := true, recurses := true, apart := false, narrowed := true }
def ParseManyUptoSaid : Prop := parseManyUptoRow.holds Try.pinned (OpenSpec.upto parseManySpec)

/-- 'filigreelaw14.ParseOnes', WHERE WHAT IT READS IS OF BULK AT MOST 1048576: true; the input reads as it did. -/
def parseOnesUptoRow : OpenClaim := { program := "ytboeeaekhijboaa", sum := "42a065db9c7a633df3802cd9d040f5b27438e8f57457f3cecce99c697b05c5da", func := "filigree/filigreelaw14.ParseOnes", spec := "parseOnes", inPlace := ["internal/bytealg.IndexByteString"], unfollowed := true, recurses := true, apart := false, narrowed := true }
def ParseOnesUptoSaid : Prop := parseOnesUptoRow.holds Try.pinned (OpenSpec.upto parseOnesSpec)

/-- 'filigreelaw14.ParseDeep', WHERE WHAT IT READS IS OF BULK AT MOST 1048576: true; the input reads as it did. -/
def parseDeepUptoRow : OpenClaim := { program := "ytboeeaekhijboaa", sum := "42a065db9c7a633df3802cd9d040f5b27438e8f57457f3cecce99c697b05c5da", func := "filigree/filigreelaw14.ParseDeep", spec := "parseDeep", inPlace := ["internal/bytealg.IndexByteString"], unfollowed := true, recurses := true, apart := false, narrowed := true }
def ParseDeepUptoSaid : Prop := parseDeepUptoRow.holds Try.pinned (OpenSpec.upto parseDeepSpec)

/-- 'filigreelaw14.ParseParts', WHERE WHAT IT READS IS OF BULK AT MOST 1048576: true; the input reads as it did. -/
def parsePartsUptoRow : OpenClaim := { program := "ytboeeaekhijboaa", sum := "42a065db9c7a633df3802cd9d040f5b27438e8f57457f3cecce99c697b05c5da", func := "filigree/filigreelaw14.ParseParts", spec := "parseParts", inPlace := ["internal/bytealg.IndexByteString"], unfollowed := true, recurses := true, loops := true, apart := false, narrowed := true }
def ParsePartsUptoSaid : Prop := parsePartsUptoRow.holds Try.pinned (OpenSpec.upto parsePartsSpec)

end Rows
end Go.Proofs.Ytboeeaekhijboaa

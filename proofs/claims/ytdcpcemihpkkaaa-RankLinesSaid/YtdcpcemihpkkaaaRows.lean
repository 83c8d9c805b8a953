/-
  No cell of these rows narrows 'for every input' (looked for: loops, veiled, ifaces, maps, wideKeys, modest, calm, conditions, laid).
  DERIVED. THE GIVEN ROWS OF THIS SEAT. 6 by the template 'for every input the law returns true; each argument reads behind the call as it read before'; 0 by the template 'total and deterministic' (their statements: YtdcpcemihpkkaaaTotals.lean).
  GIVEN WITH THE SEED: the statements are not yours to turn. If you find one false, say at which input.
  Laid BY PROGRAM, IN A SANDBOX (cutbox-rows.mjs): the forced cells as the released guide's own fill.sh prints them over the translation c50dd0ab2c176169… (all of the seat's roots in one cut). By AI agents, Wed Nov 11 2026. No macro, syntax, notation, axiom, sorry.
-/
import Derived.Test.YtdcpcemihpkkaaaChecked
import GoSem.Claim
import GoSem.ClaimJoined
import GoSem.ClaimMapViews
import Derived.JoinedTies
import Derived.KernelRfl
namespace Go.Proofs.Ytdcpcemihpkkaaa
/- THE CELL 'sum', in the pinned program and in every row, IS THE sha256 OF THE DUMP (.gsa) THAT YtdcpcemihpkkaaaProg.lean LOADS. Nothing in Lean hashes anything: it is a label: what it is worth is what the hold of that sum in a sandbox is worth. -/
noncomputable def Try.pinned : Pinned := { name := "ytdcpcemihpkkaaa", sum := "c50dd0ab2c176169f4ef3b66fc662c3c740fcfb89f2475978fa93717c29896c2", checked := Try.checked }
namespace Rows
def none {H : Type} : Left H := { results := [], args := [] }

/-- 'filigreelaw20.RankNews': WHATEVER THE INPUT: true; the input reads as it did. -/
def rankNewsSpec : ChangeSpec := { name := "rankNews", fn := fun _ => fun
  | [d] => { results := [.lit (.bool true)], args := [d] }
  | _ => none }
def rankNewsRow : OpenClaim := { program := "ytdcpcemihpkkaaa", sum := "c50dd0ab2c176169f4ef3b66fc662c3c740fcfb89f2475978fa93717c29896c2", func := "filigree/filigreelaw20.RankNews", spec := "rankNews", inPlace := ["sync/atomic.AddInt64", "sync/atomic.LoadUint32", "(*internal/sync.Mutex).Lock", "internal/race.Disable", "sync/atomic.CompareAndSwapInt32", "internal/race.Enable", "internal/race.Acquire", "(*internal/sync.Mutex).lockSlow", "internal/sync.runtime_canSpin", "internal/sync.runtime_doSpin", "internal/sync.throw", "internal/sync.runtime_nanotime", "internal/sync.runtime_SemacquireMutex", "sync/atomic.AddInt32", "(*internal/sync.Mutex).Unlock", "internal/race.ReleaseMerge", "(*internal/sync.Mutex).unlockSlow", "internal/sync.fatal", "internal/sync.runtime_Semrelease", "sync/atomic.StoreUint32"], unfollowed := true, recurses := true, apart := false }
def RankNewsSaid : Prop := rankNewsRow.holds Try.pinned (OpenSpec.ofChange rankNewsSpec)

/-- ITS FALSE NEIGHBOUR: 'it returns false'. Refute it at one input. -/
def rankNewsWrong : ChangeSpec := { name := "rankNews", fn := fun _ => fun
  | [d] => { results := [.lit (.bool false)], args := [d] }
  | _ => none }
def RankNewsWrongFalsely : Prop := rankNewsRow.holds Try.pinned (OpenSpec.ofChange rankNewsWrong)

/-- 'filigreelaw20.RankRules': WHATEVER THE INPUT: true; the input reads as it did. -/
def rankRulesSpec : ChangeSpec := { name := "rankRules", fn := fun _ => fun
  | [d1, d2, d3, d4] => { results := [.lit (.bool true)], args := [d1, d2, d3, d4] }
  | _ => none }
def rankRulesRow : OpenClaim := { program := "ytdcpcemihpkkaaa", sum := "c50dd0ab2c176169f4ef3b66fc662c3c740fcfb89f2475978fa93717c29896c2", func := "filigree/filigreelaw20.RankRules", spec := "rankRules", inPlace := ["sync/atomic.AddInt64", "sync/atomic.LoadUint32", "(*internal/sync.Mutex).Lock", "internal/race.Disable", "sync/atomic.CompareAndSwapInt32", "internal/race.Enable", "internal/race.Acquire", "(*internal/sync.Mutex).lockSlow", "internal/sync.runtime_canSpin", "internal/sync.runtime_doSpin", "internal/sync.throw", "internal/sync.runtime_nanotime", "internal/sync.runtime_SemacquireMutex", "sync/atomic.AddInt32", "(*internal/sync.Mutex).Unlock", "internal/race.ReleaseMerge", "(*internal/sync.Mutex).unlockSlow", "internal/sync.fatal", "internal/sync.runtime_Semrelease", "sync/atomic.StoreUint32"], unfollowed := true, recurses := true, apart := false }
def RankRulesSaid : Prop := rankRulesRow.holds Try.pinned (OpenSpec.ofChange rankRulesSpec)

/-- ITS FALSE NEIGHBOUR: 'it returns false'. Refute it at one input. -/
def rankRulesWrong : ChangeSpec := { name := "rankRules", fn := fun _ => fun
  | [d1, d2, d3, d4] => { results := [.lit (.bool false)], args := [d1, d2, d3, d4] }
  | _ => none }
def RankRulesWrongFalsely : Prop := rankRulesRow.holds Try.pinned (OpenSpec.ofChange rankRulesWrong)

/-- 'filigreelaw20.RankAboves': WHATEVER THE INPUT: true; the input reads as it did. -/
def rankAbovesSpec : ChangeSpec := { name := "rankAboves", fn := fun _ => fun
  | [d1, d2, d3] => { results := [.lit (.bool true)], args := [d1, d2, d3] }
  | _ => none }
def rankAbovesRow : OpenClaim := { program := "ytdcpcemihpkkaaa", sum := "c50dd0ab2c176169f4ef3b66fc662c3c740fcfb89f2475978fa93717c29896c2", func := "filigree/filigreelaw20.RankAboves", spec := "rankAboves", inPlace := ["sync/atomic.AddInt64", "sync/atomic.LoadUint32", "(*internal/sync.Mutex).Lock", "internal/race.Disable", "sync/atomic.CompareAndSwapInt32", "internal/race.Enable", "internal/race.Acquire", "(*internal/sync.Mutex).lockSlow", "internal/sync.runtime_canSpin", "internal/sync.runtime_doSpin", "internal/sync.throw", "internal/sync.runtime_nanotime", "internal/sync.runtime_SemacquireMutex", "sync/atomic.AddInt32", "(*internal/sync.Mutex).Unlock", "internal/race.ReleaseMerge", "(*internal/sync.Mutex).unlockSlow", "internal/sync.fatal", "internal/sync.runtime_Semrelease", "sync/atomic.StoreUint32"], unfollowed := true, recurses := true, apart := false }
def RankAbovesSaid : Prop := rankAbovesRow.holds Try.pinned (OpenSpec.ofChange rankAbovesSpec)

/-- ITS FALSE NEIGHBOUR: 'it returns false'. Refute it at one input. -/
def rankAbovesWrong : ChangeSpec := { name := "rankAboves", fn := fun _ => fun
  | [d1, d2, d3] => { results := [.lit (.bool false)], args := [d1, d2, d3] }
  | _ => none }
def RankAbovesWrongFalsely : Prop := rankAbovesRow.holds Try.pinned (OpenSpec.ofChange rankAbovesWrong)

/-- 'filigreelaw20.RankLines': WHATEVER THE INPUT: true; the input reads as it did. -/
def rankLinesSpec : ChangeSpec := { name := "rankLines", fn := fun _ => fun
  | [d] => { results := [.lit (.bool true)], args := [d] }
  | _ => none }
def rankLinesRow : OpenClaim := { program := "ytdcpcemihpkkaaa", sum := "c50dd0ab2c176169f4ef3b66fc662c3c740fcfb89f2475978fa93717c29896c2", func := "filigree/filigreelaw20.RankLines", spec := "rankLines", inPlace := ["sync/atomic.AddInt64", "sync/atomic.LoadUint32", "(*internal/sync.Mutex).Lock", "internal/race.Disable", "sync/atomic.CompareAndSwapInt32", "internal/race.Enable", "internal/race.Acquire", "(*internal/sync.Mutex).lockSlow", "internal/sync.runtime_canSpin", "internal/sync.runtime_doSpin", "internal/sync.throw", "internal/sync.runtime_nanotime", "internal/sync.runtime_SemacquireMutex", "sync/atomic.AddInt32", "(*internal/sync.Mutex).Unlock", "internal/race.ReleaseMerge", "(*internal/sync.Mutex).unlockSlow", "internal/sync.fatal", "internal/sync.runtime_Semrelease", "sync/atomic.StoreUint32"], unfollowed := true, recurses := true, apart := false }
def RankLinesSaid : Prop := rankLinesRow.holds Try.pinned (OpenSpec.ofChange rankLinesSpec)

/-- ITS FALSE NEIGHBOUR: 'it returns false'. Refute it at one input. -/
def rankLinesWrong : ChangeSpec := { name := "rankLines", fn := fun _ => fun
  | [d] => { results := [.lit (.bool false)], args := [d] }
  | _ => none }
def RankLinesWrongFalsely : Prop := rankLinesRow.holds Try.pinned (OpenSpec.ofChange rankLinesWrong)

/-- 'filigreelaw20.RankWiths': WHATEVER THE INPUT: true; the input reads as it did. -/
def rankWithsSpec : ChangeSpec := { name := "rankWiths", fn := fun _ => fun
  | [d1, d2, d3, d4] => { results := [.lit (.bool true)], args := [d1, d2, d3, d4] }
  | _ => none }
def rankWithsRow : OpenClaim := { program := "ytdcpcemihpkkaaa", sum := "c50dd0ab2c176169f4ef3b66fc662c3c740fcfb89f2475978fa93717c29896c2", func := "filigree/filigreelaw20.RankWiths", spec := "rankWiths", inPlace := ["sync/atomic.AddInt64", "sync/atomic.LoadUint32", "(*internal/sync.Mutex).Lock", "internal/race.Disable", "sync/atomic.CompareAndSwapInt32", "internal/race.Enable", "internal/race.Acquire", "(*internal/sync.Mutex).lockSlow", "internal/sync.runtime_canSpin", "internal/sync.runtime_doSpin", "internal/sync.throw", "internal/sync.runtime_nanotime", "internal/sync.runtime_SemacquireMutex", "sync/atomic.AddInt32", "(*internal/sync.Mutex).Unlock", "internal/race.ReleaseMerge", "(*internal/sync.Mutex).unlockSlow", "internal/sync.fatal", "internal/sync.runtime_Semrelease", "sync/atomic.StoreUint32"], unfollowed := true, recurses := true, apart := false }
def RankWithsSaid : Prop := rankWithsRow.holds Try.pinned (OpenSpec.ofChange rankWithsSpec)

/-- ITS FALSE NEIGHBOUR: 'it returns false'. Refute it at one input. -/
def rankWithsWrong : ChangeSpec := { name := "rankWiths", fn := fun _ => fun
  | [d1, d2, d3, d4] => { results := [.lit (.bool false)], args := [d1, d2, d3, d4] }
  | _ => none }
def RankWithsWrongFalsely : Prop := rankWithsRow.holds Try.pinned (OpenSpec.ofChange rankWithsWrong)

/-- 'filigreelaw20.RankNil': WHATEVER THE INPUT: true; the input reads as it did. -/
def rankNilSpec : ChangeSpec := { name := "rankNil", fn := fun _ => fun
  | [d1, d2] => { results := [.lit (.bool true)], args := [d1, d2] }
  | _ => none }
def rankNilRow : OpenClaim := { program := "ytdcpcemihpkkaaa", sum := "c50dd0ab2c176169f4ef3b66fc662c3c740fcfb89f2475978fa93717c29896c2", func := "filigree/filigreelaw20.RankNil", spec := "rankNil", inPlace := ["sync/atomic.AddInt64", "sync/atomic.LoadUint32", "(*internal/sync.Mutex).Lock", "internal/race.Disable", "sync/atomic.CompareAndSwapInt32", "internal/race.Enable", "internal/race.Acquire", "(*internal/sync.Mutex).lockSlow", "internal/sync.runtime_canSpin", "internal/sync.runtime_doSpin", "internal/sync.throw", "internal/sync.runtime_nanotime", "internal/sync.runtime_SemacquireMutex", "sync/atomic.AddInt32", "(*internal/sync.Mutex).Unlock", "internal/race.ReleaseMerge", "(*internal/sync.Mutex).unlockSlow", "internal/sync.fatal", "internal/sync.runtime_Semrelease", "sync/atomic.StoreUint32"], unfollowed := true, recurses := true, apart := false }
def RankNilSaid : Prop := rankNilRow.holds Try.pinned (OpenSpec.ofChange rankNilSpec)

/-- ITS FALSE NEIGHBOUR: 'it returns false'. Refute it at one input. -/
def rankNilWrong : ChangeSpec := { name := "rankNil", fn := fun _ => fun
  | [d1, d2] => { results := [.lit (.bool false)], args := [d1, d2] }
  | _ => none }
def RankNilWrongFalsely : Prop := rankNilRow.holds Try.pinned (OpenSpec.ofChange rankNilWrong)

/- THE SECOND FORM. 'bulk': how many values and letters a reading holds, each counted each time it is reached (what is shared counts as often as it is met; a slice's spare places count too). A statement '..UptoSaid' is the law's where the arguments, and the package variables that the reading takes, are together of bulk at most 1048576: NARROWER than '..Said'. Prove '..Said' where nothing that the law and all that it calls make is longer than what came in: it says more and counts as full. Else prove '..UptoSaid'. A law counts once. -/
mutual
def uptoBulk {H : Type} : DataW H → Nat
  | .lit (.string bytes) => bytes.length + 1
  | .lit _ => 1
  | .nil => 1
  | .ptr d => uptoBulk d + 1
  | .slice elems spare => uptoBulkAll elems + uptoBulkAll spare + 1
  | .agg parts => uptoBulkAll parts + 1
  | .iface _ d => uptoBulk d + 1
  | .map entries => uptoBulkEntries entries + 1
  | .held _ => 1
def uptoBulkAll {H : Type} : List (DataW H) → Nat
  | [] => 0
  | d :: r => uptoBulk d + uptoBulkAll r
def uptoBulkEntries {H : Type} : List (Lit × DataW H) → Nat
  | [] => 0
  | x :: r => uptoBulkEntry x + uptoBulkEntries r
def uptoBulkEntry {H : Type} : Lit × DataW H → Nat
  | (.string bytes, d) => bytes.length + uptoBulk d + 1
  | (_, d) => uptoBulk d + 1
 end
def uptoSmall : (H : Type) → List (DataW H) → Bool := fun _ ds => decide (uptoBulkAll ds ≤ 1048576)
def OpenSpec.upto (s : _root_.Go.ChangeSpec) : _root_.Go.OpenSpec := { _root_.Go.OpenSpec.ofChange s with cond := some uptoSmall }

/-- 'filigreelaw20.RankNews', WHERE WHAT IT READS IS OF BULK AT MOST 1048576: true; the input reads as it did. -/
def rankNewsUptoRow : OpenClaim := { program := "ytdcpcemihpkkaaa", sum := "c50dd0ab2c176169f4ef3b66fc662c3c740fcfb89f2475978fa93717c29896c2", func := "filigree/filigreelaw20.RankNews", spec := "rankNews", inPlace := ["sync/atomic.AddInt64", "sync/atomic.LoadUint32", "(*internal/sync.Mutex).Lock", "internal/race.Disable", "sync/atomic.CompareAndSwapInt32", "internal/race.Enable", "internal/race.Acquire", "(*internal/sync.Mutex).lockSlow", "internal/sync.runtime_canSpin", "internal/sync.runtime_doSpin", "internal/sync.throw", "internal/sync.runtime_nanotime", "internal/sync.runtime_SemacquireMutex", "sync/atomic.AddInt32", "(*internal/sync.Mutex).Unlock", "internal/race.ReleaseMerge", "(*internal/sync.Mutex).unlockSlow", "internal/sync.fatal", "internal/sync.runtime_Semrelease", "sync/atomic.StoreUint32"], unfollowed := true, recurses := true, apart := false, narrowed := true }
def RankNewsUptoSaid : Prop := rankNewsUptoRow.holds Try.pinned (OpenSpec.upto rankNewsSpec)

/-- 'filigreelaw20.RankRules', WHERE WHAT IT READS IS OF BULK AT MOST 1048576: true; the input reads as it did. -/
def rankRulesUptoRow : OpenClaim := { program := "ytdcpcemihpkkaaa", sum := "c50dd0ab2c176169f4ef3b66fc662c3c740fcfb89f2475978fa93717c29896c2", func := "filigree/filigreelaw20.RankRules", spec := "rankRules", inPlace := ["sync/atomic.AddInt64", "sync/atomic.LoadUint32", "(*internal/sync.Mutex).Lock", "internal/race.Disable", "sync/atomic.CompareAndSwapInt32", "internal/race.Enable", "internal/race.Acquire", "(*internal/sync.Mutex).lockSlow", "internal/sync.runtime_canSpin", "internal/sync.runtime_doSpin", "internal/sync.throw", "internal/sync.runtime_nanotime", "internal/sync.runtime_SemacquireMutex", "sync/atomic.AddInt32", "(*internal/sync.Mutex).Unlock", "internal/race.ReleaseMerge", "(*internal/sync.Mutex).unlockSlow", "internal/sync.fatal", "internal/sync.runtime_Semrelease", "sync/atomic.StoreUint32"], unfollowed := true, recurses := true, apart := false, narrowed := true }
def RankRulesUptoSaid : Prop := rankRulesUptoRow.holds Try.pinned (OpenSpec.upto rankRulesSpec)

/-- 'filigreelaw20.RankAboves', WHERE WHAT IT READS IS OF BULK AT MOST 1048576: true; the input reads as it did. -/
def rankAbovesUptoRow : OpenClaim := { program := "ytdcpcemihpkkaaa", sum := "c50dd0ab2c176169f4ef3b66fc662c3c740fcfb89f2475978fa93717c29896c2", func := "filigree/filigreelaw20.RankAboves", spec := "rankAboves", inPlace := ["sync/atomic.AddInt64", "sync/atomic.LoadUint32", "(*internal/sync.Mutex).Lock", "internal/race.Disable", "sync/atomic.CompareAndSwapInt32", "internal/race.Enable", "internal/race.Acquire", "(*internal/sync.Mutex).lockSlow", "internal/sync.runtime_canSpin", "internal/sync.runtime_doSpin", "internal/sync.throw", "internal/sync.runtime_nanotime", "internal/sync.runtime_SemacquireMutex", "sync/atomic.AddInt32", "(*internal/sync.Mutex).Unlock", "internal/race.ReleaseMerge", "(*internal/sync.Mutex).unlockSlow", "internal/sync.fatal", "internal/sync.runtime_Semrelease", "sync/atomic.StoreUint32"], unfollowed := true, recurses := true, apart := false, narrowed := true }
def RankAbovesUptoSaid : Prop := rankAbovesUptoRow.holds Try.pinned (OpenSpec.upto rankAbovesSpec)

/-- 'filigreelaw20.RankLines', WHERE WHAT IT READS IS OF BULK AT MOST 1048576: true; the input reads as it did. -/
def rankLinesUptoRow : OpenClaim := { program := "ytdcpcemihpkkaaa", sum := "c50dd0ab2c176169f4ef3b66fc662c3c740fcfb89f2475978fa93717c29896c2", func := "filigree/filigreelaw20.RankLines", spec := "rankLines", inPlace := ["sync/atomic.AddInt64", "sync/atomic.LoadUint32", "(*internal/sync.Mutex).Lock", "internal/race.Disable", "sync/atomic.CompareAndSwapInt32", "internal/race.Enable", "internal/race.Acquire", "(*internal/sync.Mutex).lockSlow", "internal/sync.runtime_canSpin", "internal/sync.runtime_doSpin", "internal/sync.throw", "internal/sync.runtime_nanotime", "internal/sync.runtime_SemacquireMutex", "sync/atomic.AddInt32", "(*internal/sync.Mutex).Unlock", "internal/race.ReleaseMerge", "(*internal/sync.Mutex).unlockSlow", "internal/sync.fatal", "internal/sync.runtime_Semrelease", "sync/atomic.StoreUint32"], unfollowed := true, recurses := true, apart := false, narrowed := true }
def RankLinesUptoSaid : Prop := rankLinesUptoRow.holds Try.pinned (OpenSpec.upto rankLinesSpec)

/-- 'filigreelaw20.RankWiths', WHERE WHAT IT READS IS OF BULK AT MOST 1048576: true; the input reads as it did. -/
def rankWithsUptoRow : OpenClaim := { program := "ytdcpcemihpkkaaa", sum := "c50dd0ab2c176169f4ef3b66fc662c3c740fcfb89f2475978fa93717c29896c2", func := "filigree/filigreelaw20.RankWiths", spec := "rankWiths", inPlace := ["sync/atomic.AddInt64", "sync/atomic.LoadUint32", "(*internal/sync.Mutex).Lock", "internal/race.Disable", "sync/atomic.CompareAndSwapInt32", "internal/race.Enable", "internal/race.Acquire", "(*internal/sync.Mutex).lockSlow", "internal/sync.runtime_canSpin", "internal/sync.runtime_doSpin", "internal/sync.throw", "internal/sync.runtime_nanotime", "internal/sync.runtime_SemacquireMutex", "sync/atomic.AddInt32", "(*internal/sync.Mutex).Unlock", "internal/race.ReleaseMerge", "(*internal/sync.Mutex).unlockSlow", "internal/sync.fatal", "internal/sync.runtime_Semrelease", "sync/atomic.StoreUint32"], unfollowed := true, recurses := true, apart := false, narrowed := true }
def RankWithsUptoSaid : Prop := rankWithsUptoRow.holds Try.pinned (OpenSpec.upto rankWithsSpec)

/-- 'filigreelaw20.RankNil', WHERE WHAT IT READS IS OF BULK AT MOST 1048576: true; the input reads as it did. -/
def rankNilUptoRow : OpenClaim := { program := "ytdcpcemihpkkaaa", sum := "c50dd0ab2c176169f4ef3b66fc662c3c740fcfb89f2475978fa93717c29896c2", func := "filigree/filigreelaw20.RankNil", spec := "rankNil", inPlace := ["sync/atomic.AddInt64", "sync/atomic.LoadUint32", "(*internal/sync.Mutex).Lock", "internal/race.Disable", "sync/atomic.CompareAndSwapInt32", "internal/race.Enable", "internal/race.Acquire", "(*internal/sync.Mutex).lockSlow", "internal/sync.runtime_canSpin", "internal/sync.runtime_doSpin", "internal/sync.throw", "internal/sync.runtime_nanotime", "internal/sync.runtime_SemacquireMutex", "sync/atomic.AddInt32", "(*internal/sync.Mutex).Unlock", "internal/race.ReleaseMerge", "(*internal/sync.Mutex).unlockSlow", "internal/sync.fatal", "internal/sync.runtime_Semrelease", "sync/atomic.StoreUint32"], unfollowed := true, recurses := true, apart := false, narrowed := true }
def RankNilUptoSaid : Prop := rankNilUptoRow.holds Try.pinned (OpenSpec.upto rankNilSpec)

end Rows
end Go.Proofs.Ytdcpcemihpkkaaa

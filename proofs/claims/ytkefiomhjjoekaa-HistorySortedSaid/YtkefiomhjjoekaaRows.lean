/-
  No cell of these rows narrows 'for every input' (looked for: loops, veiled, ifaces, maps, wideKeys, modest, calm, conditions, laid).
  DERIVED. THE GIVEN ROWS OF THIS SEAT. 8 by the template 'for every input the law returns true; each argument reads behind the call as it read before'; 0 by the template 'total and deterministic' (their statements: YtkefiomhjjoekaaTotals.lean).
  GIVEN WITH THE SEED: the statements are not yours to turn. If you find one false, say at which input.
  Laid BY PROGRAM, IN A SANDBOX (cutbox-rows.mjs): the forced cells as the released guide's own fill.sh prints them over the translation e748ca73deb7340d… (all of the seat's roots in one cut). By AI agents, Wed Nov 11 2026. No macro, syntax, notation, axiom, sorry.
-/
import Derived.Test.YtkefiomhjjoekaaChecked
import GoSem.Claim
import GoSem.ClaimJoined
import GoSem.ClaimMapViews
import Derived.JoinedTies
import Derived.KernelRfl
namespace Go.Proofs.Ytkefiomhjjoekaa
/- THE CELL 'sum', in the pinned program and in every row, IS THE sha256 OF THE DUMP (.gsa) THAT YtkefiomhjjoekaaProg.lean LOADS. Nothing in Lean hashes anything: it is a label: what it is worth is what the hold of that sum in a sandbox is worth. -/
noncomputable def Try.pinned : Pinned := { name := "ytkefiomhjjoekaa", sum := "e748ca73deb7340dfabea7c7a33521f76dd3dcb945977ea2fd44dadaa6a622a3", checked := Try.checked }
namespace Rows
def none {H : Type} : Left H := { results := [], args := [] }

/-- 'stopwatchlaw26.HistoryCheckSpec': WHATEVER THE INPUT: true; the input reads as it did. -/
def historyCheckSpecSpec : ChangeSpec := { name := "historyCheckSpec", fn := fun _ => fun
  | [d1, d2] => { results := [.lit (.bool true)], args := [d1, d2] }
  | _ => none }
def historyCheckSpecRow : OpenClaim := { program := "ytkefiomhjjoekaa", sum := "e748ca73deb7340dfabea7c7a33521f76dd3dcb945977ea2fd44dadaa6a622a3", func := "stopwatch/stopwatchlaw26.HistoryCheckSpec", spec := "historyCheckSpec", unfollowed := true, recurses := true, apart := false }
def HistoryCheckSpecSaid : Prop := historyCheckSpecRow.holds Try.pinned (OpenSpec.ofChange historyCheckSpecSpec)

/-- ITS FALSE NEIGHBOUR: 'it returns false'. Refute it at one input. -/
def historyCheckSpecWrong : ChangeSpec := { name := "historyCheckSpec", fn := fun _ => fun
  | [d1, d2] => { results := [.lit (.bool false)], args := [d1, d2] }
  | _ => none }
def HistoryCheckSpecWrongFalsely : Prop := historyCheckSpecRow.holds Try.pinned (OpenSpec.ofChange historyCheckSpecWrong)

/-- 'stopwatchlaw26.HistoryOrderSpec': WHATEVER THE INPUT: true; the input reads as it did. -/
def historyOrderSpecSpec : ChangeSpec := { name := "historyOrderSpec", fn := fun _ => fun
  | [d1, d2, d3] => { results := [.lit (.bool true)], args := [d1, d2, d3] }
  | _ => none }
def historyOrderSpecRow : OpenClaim := { program := "ytkefiomhjjoekaa", sum := "e748ca73deb7340dfabea7c7a33521f76dd3dcb945977ea2fd44dadaa6a622a3", func := "stopwatch/stopwatchlaw26.HistoryOrderSpec", spec := "historyOrderSpec", unfollowed := true, recurses := true, apart := false }
def HistoryOrderSpecSaid : Prop := historyOrderSpecRow.holds Try.pinned (OpenSpec.ofChange historyOrderSpecSpec)

/-- ITS FALSE NEIGHBOUR: 'it returns false'. Refute it at one input. -/
def historyOrderSpecWrong : ChangeSpec := { name := "historyOrderSpec", fn := fun _ => fun
  | [d1, d2, d3] => { results := [.lit (.bool false)], args := [d1, d2, d3] }
  | _ => none }
def HistoryOrderSpecWrongFalsely : Prop := historyOrderSpecRow.holds Try.pinned (OpenSpec.ofChange historyOrderSpecWrong)

/-- 'stopwatchlaw26.HistoryLater': WHATEVER THE INPUT: true; the input reads as it did. -/
def historyLaterSpec : ChangeSpec := { name := "historyLater", fn := fun _ => fun
  | [d1, d2, d3] => { results := [.lit (.bool true)], args := [d1, d2, d3] }
  | _ => none }
def historyLaterRow : OpenClaim := { program := "ytkefiomhjjoekaa", sum := "e748ca73deb7340dfabea7c7a33521f76dd3dcb945977ea2fd44dadaa6a622a3", func := "stopwatch/stopwatchlaw26.HistoryLater", spec := "historyLater", unfollowed := true, recurses := true, apart := false }
def HistoryLaterSaid : Prop := historyLaterRow.holds Try.pinned (OpenSpec.ofChange historyLaterSpec)

/-- ITS FALSE NEIGHBOUR: 'it returns false'. Refute it at one input. -/
def historyLaterWrong : ChangeSpec := { name := "historyLater", fn := fun _ => fun
  | [d1, d2, d3] => { results := [.lit (.bool false)], args := [d1, d2, d3] }
  | _ => none }
def HistoryLaterWrongFalsely : Prop := historyLaterRow.holds Try.pinned (OpenSpec.ofChange historyLaterWrong)

/-- 'stopwatchlaw26.HistoryEach': WHATEVER THE INPUT: true; the input reads as it did. -/
def historyEachSpec : ChangeSpec := { name := "historyEach", fn := fun _ => fun
  | [d1, d2, d3] => { results := [.lit (.bool true)], args := [d1, d2, d3] }
  | _ => none }
def historyEachRow : OpenClaim := { program := "ytkefiomhjjoekaa", sum := "e748ca73deb7340dfabea7c7a33521f76dd3dcb945977ea2fd44dadaa6a622a3", func := "stopwatch/stopwatchlaw26.HistoryEach", spec := "historyEach", unfollowed := true, recurses := true, apart := false }
def HistoryEachSaid : Prop := historyEachRow.holds Try.pinned (OpenSpec.ofChange historyEachSpec)

/-- ITS FALSE NEIGHBOUR: 'it returns false'. Refute it at one input. -/
def historyEachWrong : ChangeSpec := { name := "historyEach", fn := fun _ => fun
  | [d1, d2, d3] => { results := [.lit (.bool false)], args := [d1, d2, d3] }
  | _ => none }
def HistoryEachWrongFalsely : Prop := historyEachRow.holds Try.pinned (OpenSpec.ofChange historyEachWrong)

/-- 'stopwatchlaw26.HistoryNetSpec': WHATEVER THE INPUT: true; the input reads as it did. -/
def historyNetSpecSpec : ChangeSpec := { name := "historyNetSpec", fn := fun _ => fun
  | [d1, d2, d3] => { results := [.lit (.bool true)], args := [d1, d2, d3] }
  | _ => none }
def historyNetSpecRow : OpenClaim := { program := "ytkefiomhjjoekaa", sum := "e748ca73deb7340dfabea7c7a33521f76dd3dcb945977ea2fd44dadaa6a622a3", func := "stopwatch/stopwatchlaw26.HistoryNetSpec", spec := "historyNetSpec", unfollowed := true, recurses := true, apart := false }
def HistoryNetSpecSaid : Prop := historyNetSpecRow.holds Try.pinned (OpenSpec.ofChange historyNetSpecSpec)

/-- ITS FALSE NEIGHBOUR: 'it returns false'. Refute it at one input. -/
def historyNetSpecWrong : ChangeSpec := { name := "historyNetSpec", fn := fun _ => fun
  | [d1, d2, d3] => { results := [.lit (.bool false)], args := [d1, d2, d3] }
  | _ => none }
def HistoryNetSpecWrongFalsely : Prop := historyNetSpecRow.holds Try.pinned (OpenSpec.ofChange historyNetSpecWrong)

/-- 'stopwatchlaw26.HistorySorted': WHATEVER THE INPUT: true; the input reads as it did. -/
def historySortedSpec : ChangeSpec := { name := "historySorted", fn := fun _ => fun
  | [d1, d2] => { results := [.lit (.bool true)], args := [d1, d2] }
  | _ => none }
def historySortedRow : OpenClaim := { program := "ytkefiomhjjoekaa", sum := "e748ca73deb7340dfabea7c7a33521f76dd3dcb945977ea2fd44dadaa6a622a3", func := "stopwatch/stopwatchlaw26.HistorySorted", spec := "historySorted", unfollowed := true, recurses := true, apart := false }
def HistorySortedSaid : Prop := historySortedRow.holds Try.pinned (OpenSpec.ofChange historySortedSpec)

/-- ITS FALSE NEIGHBOUR: 'it returns false'. Refute it at one input. -/
def historySortedWrong : ChangeSpec := { name := "historySorted", fn := fun _ => fun
  | [d1, d2] => { results := [.lit (.bool false)], args := [d1, d2] }
  | _ => none }
def HistorySortedWrongFalsely : Prop := historySortedRow.holds Try.pinned (OpenSpec.ofChange historySortedWrong)

/-- 'stopwatchlaw26.HistoryRanks': WHATEVER THE INPUT: true; the input reads as it did. -/
def historyRanksSpec : ChangeSpec := { name := "historyRanks", fn := fun _ => fun
  | [d1, d2] => { results := [.lit (.bool true)], args := [d1, d2] }
  | _ => none }
def historyRanksRow : OpenClaim := { program := "ytkefiomhjjoekaa", sum := "e748ca73deb7340dfabea7c7a33521f76dd3dcb945977ea2fd44dadaa6a622a3", func := "stopwatch/stopwatchlaw26.HistoryRanks", spec := "historyRanks", unfollowed := true, recurses := true, apart := false }
def HistoryRanksSaid : Prop := historyRanksRow.holds Try.pinned (OpenSpec.ofChange historyRanksSpec)

/-- ITS FALSE NEIGHBOUR: 'it returns false'. Refute it at one input. -/
def historyRanksWrong : ChangeSpec := { name := "historyRanks", fn := fun _ => fun
  | [d1, d2] => { results := [.lit (.bool false)], args := [d1, d2] }
  | _ => none }
def HistoryRanksWrongFalsely : Prop := historyRanksRow.holds Try.pinned (OpenSpec.ofChange historyRanksWrong)

/-- 'stopwatchlaw26.HistoryExtremes': WHATEVER THE INPUT: true; the input reads as it did. -/
def historyExtremesSpec : ChangeSpec := { name := "historyExtremes", fn := fun _ => fun
  | [d1, d2] => { results := [.lit (.bool true)], args := [d1, d2] }
  | _ => none }
def historyExtremesRow : OpenClaim := { program := "ytkefiomhjjoekaa", sum := "e748ca73deb7340dfabea7c7a33521f76dd3dcb945977ea2fd44dadaa6a622a3", func := "stopwatch/stopwatchlaw26.HistoryExtremes", spec := "historyExtremes", unfollowed := true, recurses := true, apart := false }
def HistoryExtremesSaid : Prop := historyExtremesRow.holds Try.pinned (OpenSpec.ofChange historyExtremesSpec)

/-- ITS FALSE NEIGHBOUR: 'it returns false'. Refute it at one input. -/
def historyExtremesWrong : ChangeSpec := { name := "historyExtremes", fn := fun _ => fun
  | [d1, d2] => { results := [.lit (.bool false)], args := [d1, d2] }
  | _ => none }
def HistoryExtremesWrongFalsely : Prop := historyExtremesRow.holds Try.pinned (OpenSpec.ofChange historyExtremesWrong)

/- THE SECOND FORM. 'bulk': how many values and letters a reading holds, each counted each time it is reached (what is shared counts as often as it is met; a slice's spare places count too). A statement '..UptoSaid' is the law's where the arguments, and the package variables that the reading takes, are together of bulk at most 1048576: NARROWER than '..Said'. Prove '..Said' where nothing that the law and all that it calls make is longer than what came in: it says more and counts as full. Else prove '..UptoSaid'. A law counts once. -/
mutual
def uptoBulk {H : Type} : DataW H → Nat
  | .lit (.string bytes) => bytes.length + 1
  | .lit _ => 1
  | .nil => 1
  | .ptr d => uptoBulk d + 1
  | .slice elems spare => uptoBulkAll elems + uptoBulkAll spare + 1
  | .agg parts => uptoBulkAll parts + 1
  | .iface _ d => uptoBulk d + 1
  | .map entries => uptoBulkEntries entries + 1
  | .held _ => 1
def uptoBulkAll {H : Type} : List (DataW H) → Nat
  | [] => 0
  | d :: r => uptoBulk d + uptoBulkAll r
def uptoBulkEntries {H : Type} : List (Lit × DataW H) → Nat
  | [] => 0
  | x :: r => uptoBulkEntry x + uptoBulkEntries r
def uptoBulkEntry {H : Type} : Lit × DataW H → Nat
  | (.string bytes, d) => bytes.length + uptoBulk d + 1
  | (_, d) => uptoBulk d + 1
 end
def uptoSmall : (H : Type) → List (DataW H) → Bool := fun _ ds => decide (uptoBulkAll ds ≤ 1048576)
def OpenSpec.upto (s : _root_.Go.ChangeSpec) : _root_.Go.OpenSpec := { _root_.Go.OpenSpec.ofChange s with cond := some uptoSmall }

/-- 'stopwatchlaw26.HistoryCheckSpec', WHERE WHAT IT READS IS OF BULK AT MOST 1048576: true; the input reads as it did. -/
def historyCheckSpecUptoRow : OpenClaim := { program := "ytkefiomhjjoekaa", sum := "e748ca73deb7340dfabea7c7a33521f76dd3dcb945977ea2fd44dadaa6a622a3", func := "stopwatch/stopwatchlaw26.HistoryCheckSpec", spec := "historyCheckSpec", unfollowed := true, recurses := true, apart := false, narrowed := true }
def HistoryCheckSpecUptoSaid : Prop := historyCheckSpecUptoRow.holds Try.pinned (OpenSpec.upto historyCheckSpecSpec)

/-- 'stopwatchlaw26.HistoryOrderSpec', WHERE WHAT IT READS IS OF BULK AT MOST 1048576: true; the input reads as it did. -/
def historyOrderSpecUptoRow : OpenClaim := { program := "ytkefiomhjjoekaa", sum := "e748ca73deb7340dfabea7c7a33521f76dd3dcb945977ea2fd44dadaa6a622a3", func := "stopwatch/stopwatchlaw26.HistoryOrderSpec", spec := "historyOrderSpec", unfollowed := true, recurses := true, apart := false, narrowed := true }
def HistoryOrderSpecUptoSaid : Prop := historyOrderSpecUptoRow.holds Try.pinned (OpenSpec.upto historyOrderSpecSpec)

/-- 'stopwatchlaw26.HistoryLater', WHERE WHAT IT READS IS OF BULK AT MOST 1048576: true; the input reads as it did. -/
def historyLaterUptoRow : OpenClaim := { program := "ytkefiomhjjoekaa", sum := "e748ca73deb7340dfabea7c7a33521f76dd3dcb945977ea2fd44dadaa6a622a3", func := "stopwatch/stopwatchlaw26.HistoryLater", spec := "historyLater", unfollowed := true, recurses := true, apart := false, narrowed := true }
def HistoryLaterUptoSaid : Prop := historyLaterUptoRow.holds Try.pinned (OpenSpec.upto historyLaterSpec)

/-- 'stopwatchlaw26.HistoryEach', WHERE WHAT IT READS IS OF BULK AT MOST 1048576: true; the input reads as it did. -/
def historyEachUptoRow : OpenClaim := { program := "ytkefiomhjjoekaa", sum := "e748ca73deb7340dfabea7c7a33521f76dd3dcb945977ea2fd44dadaa6a622a3", func := "stopwatch/stopwatchlaw26.HistoryEach", spec := "historyEach", unfollowed := true, recurses := true, apart := false, narrowed := true }
def HistoryEachUptoSaid : Prop := historyEachUptoRow.holds Try.pinned (OpenSpec.upto historyEachSpec)

/-- 'stopwatchlaw26.HistoryNetSpec', WHERE WHAT IT READS IS OF BULK AT MOST 1048576: true; the input reads as it did. -/
def historyNetSpecUptoRow : OpenClaim := { program := "ytkefiomhjjoekaa", sum := "e748ca73deb7340dfabea7c7a33521f76dd3dcb945977ea2fd44dadaa6a622a3", func := "stopwatch/stopwatchlaw26.HistoryNetSpec", spec := "historyNetSpec", unfollowed := true, recurses := true, apart := false, narrowed := true }
def HistoryNetSpecUptoSaid : Prop := historyNetSpecUptoRow.holds Try.pinned (OpenSpec.upto historyNetSpecSpec)

/-- 'stopwatchlaw26.HistorySorted', WHERE WHAT IT READS IS OF BULK AT MOST 1048576: true; the input reads as it did. -/
def historySortedUptoRow : OpenClaim := { program := "ytkefiomhjjoekaa", sum := "e748ca73deb7340dfabea7c7a33521f76dd3dcb945977ea2fd44dadaa6a622a3", func := "stopwatch/stopwatchlaw26.HistorySorted", spec := "historySorted", unfollowed := true, recurses := true, apart := false, narrowed := true }
def HistorySortedUptoSaid : Prop := historySortedUptoRow.holds Try.pinned (OpenSpec.upto historySortedSpec)

/-- 'stopwatchlaw26.HistoryRanks', WHERE WHAT IT READS IS OF BULK AT MOST 1048576: true; the input reads as it did. -/
def historyRanksUptoRow : OpenClaim := { program := "ytkefiomhjjoekaa", sum := "e748ca73deb7340dfabea7c7a33521f76dd3dcb945977ea2fd44dadaa6a622a3", func := "stopwatch/stopwatchlaw26.HistoryRanks", spec := "historyRanks", unfollowed := true, recurses := true, apart := false, narrowed := true }
def HistoryRanksUptoSaid : Prop := historyRanksUptoRow.holds Try.pinned (OpenSpec.upto historyRanksSpec)

/-- 'stopwatchlaw26.HistoryExtremes', WHERE WHAT IT READS IS OF BULK AT MOST 1048576: true; the input reads as it did. -/
def historyExtremesUptoRow : OpenClaim := { program := "ytkefiomhjjoekaa", sum := "e748ca73deb7340dfabea7c7a33521f76dd3dcb945977ea2fd44dadaa6a622a3", func := "stopwatch/stopwatchlaw26.HistoryExtremes", spec := "historyExtremes", unfollowed := true, recurses := true, apart := false, narrowed := true }
def HistoryExtremesUptoSaid : Prop := historyExtremesUptoRow.holds Try.pinned (OpenSpec.upto historyExtremesSpec)

end Rows
end Go.Proofs.Ytkefiomhjjoekaa

/-
  No cell of these rows narrows 'for every input' (looked for: loops, veiled, ifaces, maps, wideKeys, modest, calm, conditions, laid).
  DERIVED. THE GIVEN ROWS OF THIS SEAT. 8 by the template 'for every input the law returns true; each argument reads behind the call as it read before'; 0 by the template 'total and deterministic' (their statements: YthandbiapckgkaaTotals.lean).
  GIVEN WITH THE SEED: the statements are not yours to turn. If you find one false, say at which input.
  Laid BY PROGRAM, IN A SANDBOX (cutbox-rows.mjs): the forced cells as the released guide's own fill.sh prints them over the translation 9643b14152ba3085… (all of the seat's roots in one cut). By AI agents, Wed Nov 11 2026. No macro, syntax, notation, axiom, sorry.
-/
import Derived.Test.YthandbiapckgkaaChecked
import GoSem.Claim
import GoSem.ClaimJoined
import GoSem.ClaimMapViews
import Derived.JoinedTies
import Derived.KernelRfl
namespace Go.Proofs.Ythandbiapckgkaa
/- THE CELL 'sum', in the pinned program and in every row, IS THE sha256 OF THE DUMP (.gsa) THAT YthandbiapckgkaaProg.lean LOADS. Nothing in Lean hashes anything: it is a label: what it is worth is what the hold of that sum in a sandbox is worth. -/
noncomputable def Try.pinned : Pinned := { name := "ythandbiapckgkaa", sum := "9643b14152ba30859e97d207e0b737328c7e380c6e7545a48ddbc2c49158f5e1", checked := Try.checked }
namespace Rows
def none {H : Type} : Left H := { results := [], args := [] }

/-- 'stopwatchlaw25.RanksAheadSpec': WHATEVER THE INPUT: true; the input reads as it did. -/
def ranksAheadSpecSpec : ChangeSpec := { name := "ranksAheadSpec", fn := fun _ => fun
  | [d1, d2, d3] => { results := [.lit (.bool true)], args := [d1, d2, d3] }
  | _ => none }
def ranksAheadSpecRow : OpenClaim := { program := "ythandbiapckgkaa", sum := "9643b14152ba30859e97d207e0b737328c7e380c6e7545a48ddbc2c49158f5e1", func := "stopwatch/stopwatchlaw25.RanksAheadSpec", spec := "ranksAheadSpec", unfollowed := true, recurses := true, apart := false }
def RanksAheadSpecSaid : Prop := ranksAheadSpecRow.holds Try.pinned (OpenSpec.ofChange ranksAheadSpecSpec)

/-- ITS FALSE NEIGHBOUR: 'it returns false'. Refute it at one input. -/
def ranksAheadSpecWrong : ChangeSpec := { name := "ranksAheadSpec", fn := fun _ => fun
  | [d1, d2, d3] => { results := [.lit (.bool false)], args := [d1, d2, d3] }
  | _ => none }
def RanksAheadSpecWrongFalsely : Prop := ranksAheadSpecRow.holds Try.pinned (OpenSpec.ofChange ranksAheadSpecWrong)

/-- 'stopwatchlaw25.RanksInside': WHATEVER THE INPUT: true; the input reads as it did. -/
def ranksInsideSpec : ChangeSpec := { name := "ranksInside", fn := fun _ => fun
  | [d1, d2] => { results := [.lit (.bool true)], args := [d1, d2] }
  | _ => none }
def ranksInsideRow : OpenClaim := { program := "ythandbiapckgkaa", sum := "9643b14152ba30859e97d207e0b737328c7e380c6e7545a48ddbc2c49158f5e1", func := "stopwatch/stopwatchlaw25.RanksInside", spec := "ranksInside", unfollowed := true, recurses := true, apart := false }
def RanksInsideSaid : Prop := ranksInsideRow.holds Try.pinned (OpenSpec.ofChange ranksInsideSpec)

/-- ITS FALSE NEIGHBOUR: 'it returns false'. Refute it at one input. -/
def ranksInsideWrong : ChangeSpec := { name := "ranksInside", fn := fun _ => fun
  | [d1, d2] => { results := [.lit (.bool false)], args := [d1, d2] }
  | _ => none }
def RanksInsideWrongFalsely : Prop := ranksInsideRow.holds Try.pinned (OpenSpec.ofChange ranksInsideWrong)

/-- 'stopwatchlaw25.RanksExact': WHATEVER THE INPUT: true; the input reads as it did. -/
def ranksExactSpec : ChangeSpec := { name := "ranksExact", fn := fun _ => fun
  | [d1, d2] => { results := [.lit (.bool true)], args := [d1, d2] }
  | _ => none }
def ranksExactRow : OpenClaim := { program := "ythandbiapckgkaa", sum := "9643b14152ba30859e97d207e0b737328c7e380c6e7545a48ddbc2c49158f5e1", func := "stopwatch/stopwatchlaw25.RanksExact", spec := "ranksExact", unfollowed := true, recurses := true, apart := false }
def RanksExactSaid : Prop := ranksExactRow.holds Try.pinned (OpenSpec.ofChange ranksExactSpec)

/-- ITS FALSE NEIGHBOUR: 'it returns false'. Refute it at one input. -/
def ranksExactWrong : ChangeSpec := { name := "ranksExact", fn := fun _ => fun
  | [d1, d2] => { results := [.lit (.bool false)], args := [d1, d2] }
  | _ => none }
def RanksExactWrongFalsely : Prop := ranksExactRow.holds Try.pinned (OpenSpec.ofChange ranksExactWrong)

/-- 'stopwatchlaw25.RanksOfSpec': WHATEVER THE INPUT: true; the input reads as it did. -/
def ranksOfSpecSpec : ChangeSpec := { name := "ranksOfSpec", fn := fun _ => fun
  | [d1, d2] => { results := [.lit (.bool true)], args := [d1, d2] }
  | _ => none }
def ranksOfSpecRow : OpenClaim := { program := "ythandbiapckgkaa", sum := "9643b14152ba30859e97d207e0b737328c7e380c6e7545a48ddbc2c49158f5e1", func := "stopwatch/stopwatchlaw25.RanksOfSpec", spec := "ranksOfSpec", unfollowed := true, recurses := true, apart := false }
def RanksOfSpecSaid : Prop := ranksOfSpecRow.holds Try.pinned (OpenSpec.ofChange ranksOfSpecSpec)

/-- ITS FALSE NEIGHBOUR: 'it returns false'. Refute it at one input. -/
def ranksOfSpecWrong : ChangeSpec := { name := "ranksOfSpec", fn := fun _ => fun
  | [d1, d2] => { results := [.lit (.bool false)], args := [d1, d2] }
  | _ => none }
def RanksOfSpecWrongFalsely : Prop := ranksOfSpecRow.holds Try.pinned (OpenSpec.ofChange ranksOfSpecWrong)

/-- 'stopwatchlaw25.RanksShifted': WHATEVER THE INPUT: true; the input reads as it did. -/
def ranksShiftedSpec : ChangeSpec := { name := "ranksShifted", fn := fun _ => fun
  | [d1, d2] => { results := [.lit (.bool true)], args := [d1, d2] }
  | _ => none }
def ranksShiftedRow : OpenClaim := { program := "ythandbiapckgkaa", sum := "9643b14152ba30859e97d207e0b737328c7e380c6e7545a48ddbc2c49158f5e1", func := "stopwatch/stopwatchlaw25.RanksShifted", spec := "ranksShifted", unfollowed := true, recurses := true, apart := false }
def RanksShiftedSaid : Prop := ranksShiftedRow.holds Try.pinned (OpenSpec.ofChange ranksShiftedSpec)

/-- ITS FALSE NEIGHBOUR: 'it returns false'. Refute it at one input. -/
def ranksShiftedWrong : ChangeSpec := { name := "ranksShifted", fn := fun _ => fun
  | [d1, d2] => { results := [.lit (.bool false)], args := [d1, d2] }
  | _ => none }
def RanksShiftedWrongFalsely : Prop := ranksShiftedRow.holds Try.pinned (OpenSpec.ofChange ranksShiftedWrong)

/-- 'stopwatchlaw25.RanksFewer': WHATEVER THE INPUT: true; the input reads as it did. -/
def ranksFewerSpec : ChangeSpec := { name := "ranksFewer", fn := fun _ => fun
  | [d1, d2, d3, d4] => { results := [.lit (.bool true)], args := [d1, d2, d3, d4] }
  | _ => none }
def ranksFewerRow : OpenClaim := { program := "ythandbiapckgkaa", sum := "9643b14152ba30859e97d207e0b737328c7e380c6e7545a48ddbc2c49158f5e1", func := "stopwatch/stopwatchlaw25.RanksFewer", spec := "ranksFewer", unfollowed := true, recurses := true, apart := false }
def RanksFewerSaid : Prop := ranksFewerRow.holds Try.pinned (OpenSpec.ofChange ranksFewerSpec)

/-- ITS FALSE NEIGHBOUR: 'it returns false'. Refute it at one input. -/
def ranksFewerWrong : ChangeSpec := { name := "ranksFewer", fn := fun _ => fun
  | [d1, d2, d3, d4] => { results := [.lit (.bool false)], args := [d1, d2, d3, d4] }
  | _ => none }
def RanksFewerWrongFalsely : Prop := ranksFewerRow.holds Try.pinned (OpenSpec.ofChange ranksFewerWrong)

/-- 'stopwatchlaw25.RanksCounts': WHATEVER THE INPUT: true; the input reads as it did. -/
def ranksCountsSpec : ChangeSpec := { name := "ranksCounts", fn := fun _ => fun
  | [d] => { results := [.lit (.bool true)], args := [d] }
  | _ => none }
def ranksCountsRow : OpenClaim := { program := "ythandbiapckgkaa", sum := "9643b14152ba30859e97d207e0b737328c7e380c6e7545a48ddbc2c49158f5e1", func := "stopwatch/stopwatchlaw25.RanksCounts", spec := "ranksCounts", unfollowed := true, recurses := true, apart := false }
def RanksCountsSaid : Prop := ranksCountsRow.holds Try.pinned (OpenSpec.ofChange ranksCountsSpec)

/-- ITS FALSE NEIGHBOUR: 'it returns false'. Refute it at one input. -/
def ranksCountsWrong : ChangeSpec := { name := "ranksCounts", fn := fun _ => fun
  | [d] => { results := [.lit (.bool false)], args := [d] }
  | _ => none }
def RanksCountsWrongFalsely : Prop := ranksCountsRow.holds Try.pinned (OpenSpec.ofChange ranksCountsWrong)

/-- 'stopwatchlaw25.RanksBestSpec': WHATEVER THE INPUT: true; the input reads as it did. -/
def ranksBestSpecSpec : ChangeSpec := { name := "ranksBestSpec", fn := fun _ => fun
  | [d1, d2] => { results := [.lit (.bool true)], args := [d1, d2] }
  | _ => none }
def ranksBestSpecRow : OpenClaim := { program := "ythandbiapckgkaa", sum := "9643b14152ba30859e97d207e0b737328c7e380c6e7545a48ddbc2c49158f5e1", func := "stopwatch/stopwatchlaw25.RanksBestSpec", spec := "ranksBestSpec", unfollowed := true, recurses := true, apart := false }
def RanksBestSpecSaid : Prop := ranksBestSpecRow.holds Try.pinned (OpenSpec.ofChange ranksBestSpecSpec)

/-- ITS FALSE NEIGHBOUR: 'it returns false'. Refute it at one input. -/
def ranksBestSpecWrong : ChangeSpec := { name := "ranksBestSpec", fn := fun _ => fun
  | [d1, d2] => { results := [.lit (.bool false)], args := [d1, d2] }
  | _ => none }
def RanksBestSpecWrongFalsely : Prop := ranksBestSpecRow.holds Try.pinned (OpenSpec.ofChange ranksBestSpecWrong)

/- THE SECOND FORM. 'bulk': how many values and letters a reading holds, each counted each time it is reached (what is shared counts as often as it is met; a slice's spare places count too). A statement '..UptoSaid' is the law's where the arguments, and the package variables that the reading takes, are together of bulk at most 1048576: NARROWER than '..Said'. Prove '..Said' where nothing that the law and all that it calls make is longer than what came in: it says more and counts as full. Else prove '..UptoSaid'. A law counts once. -/
mutual
def uptoBulk {H : Type} : DataW H → Nat
  | .lit (.string bytes) => bytes.length + 1
  | .lit _ => 1
  | .nil => 1
  | .ptr d => uptoBulk d + 1
  | .slice elems spare => uptoBulkAll elems + uptoBulkAll spare + 1
  | .agg parts => uptoBulkAll parts + 1
  | .iface _ d => uptoBulk d + 1
  | .map entries => uptoBulkEntries entries + 1
  | .held _ => 1
def uptoBulkAll {H : Type} : List (DataW H) → Nat
  | [] => 0
  | d :: r => uptoBulk d + uptoBulkAll r
def uptoBulkEntries {H : Type} : List (Lit × DataW H) → Nat
  | [] => 0
  | x :: r => uptoBulkEntry x + uptoBulkEntries r
def uptoBulkEntry {H : Type} : Lit × DataW H → Nat
  | (.string bytes, d) => bytes.length + uptoBulk d + 1
  | (_, d) => uptoBulk d + 1
 end
def uptoSmall : (H : Type) → List (DataW H) → Bool := fun _ ds => decide (uptoBulkAll ds ≤ 1048576)
def OpenSpec.upto (s : _root_.Go.ChangeSpec) : _root_.Go.OpenSpec := { _root_.Go.OpenSpec.ofChange s with cond := some uptoSmall }

/-- 'stopwatchlaw25.RanksAheadSpec', WHERE WHAT IT READS IS OF BULK AT MOST 1048576: true; the input reads as it did. -/
def ranksAheadSpecUptoRow : OpenClaim := { program := "ythandbiapckgkaa", sum := "9643b14152ba30859e97d207e0b737328c7e380c6e7545a48ddbc2c49158f5e1", func := "stopwatch/stopwatchlaw25.RanksAheadSpec", spec := "ranksAheadSpec", unfollowed := true, recurses := true, apart := false, narrowed := true }
def RanksAheadSpecUptoSaid : Prop := ranksAheadSpecUptoRow.holds Try.pinned (OpenSpec.upto ranksAheadSpecSpec)

/-- 'stopwatchlaw25.RanksInside', WHERE WHAT IT READS IS OF BULK AT MOST 1048576: true; the input reads as it did. -/
def ranksInsideUptoRow : OpenClaim := { program := "ythandbiapckgkaa", sum := "9643b14152ba30859e97d207e0b737328c7e380c6e7545a48ddbc2c49158f5e1", func := "stopwatch/stopwatchlaw25.RanksInside", spec := "ranksInside", unfollowed := true, recurses := true, apart := false, narrowed := true }
def RanksInsideUptoSaid : Prop := ranksInsideUptoRow.holds Try.pinned (OpenSpec.upto ranksInsideSpec)

/-- 'stopwatchlaw25.RanksExact', WHERE WHAT IT READS IS OF BULK AT MOST 1048576: true; the input reads as it did. -/
def ranksExactUptoRow : OpenClaim := { program := "ythandbiapckgkaa", sum := "9643b14152ba30859e97d207e0b737328c7e380c6e7545a48ddbc2c49158f5e1", func := "stopwatch/stopwatchlaw25.RanksExact", spec := "ranksExact", unfollowed := true, recurses := true, apart := false, narrowed := true }
def RanksExactUptoSaid : Prop := ranksExactUptoRow.holds Try.pinned (OpenSpec.upto ranksExactSpec)

/-- 'stopwatchlaw25.RanksOfSpec', WHERE WHAT IT READS IS OF BULK AT MOST 1048576: true; the input reads as it did. -/
def ranksOfSpecUptoRow : OpenClaim := { program := "ythandbiapckgkaa", sum := "9643b14152ba30859e97d207e0b737328c7e380c6e7545a48ddbc2c49158f5e1", func := "stopwatch/stopwatchlaw25.RanksOfSpec", spec := "ranksOfSpec", unfollowed := true, recurses := true, apart := false, narrowed := true }
def RanksOfSpecUptoSaid : Prop := ranksOfSpecUptoRow.holds Try.pinned (OpenSpec.upto ranksOfSpecSpec)

/-- 'stopwatchlaw25.RanksShifted', WHERE WHAT IT READS IS OF BULK AT MOST 1048576: true; the input reads as it did. -/
def ranksShiftedUptoRow : OpenClaim := { program := "ythandbiapckgkaa", sum := "9643b14152ba30859e97d207e0b737328c7e380c6e7545a48ddbc2c49158f5e1", func := "stopwatch/stopwatchlaw25.RanksShifted", spec := "ranksShifted", unfollowed := true, recurses := true, apart := false, narrowed := true }
def RanksShiftedUptoSaid : Prop := ranksShiftedUptoRow.holds Try.pinned (OpenSpec.upto ranksShiftedSpec)

/-- 'stopwatchlaw25.RanksFewer', WHERE WHAT IT READS IS OF BULK AT MOST 1048576: true; the input reads as it did. -/
def ranksFewerUptoRow : OpenClaim := { program := "ythandbiapckgkaa", sum := "9643b14152ba30859e97d207e0b737328c7e380c6e7545a48ddbc2c49158f5e1", func := "stopwatch/stopwatchlaw25.RanksFewer", spec := "ranksFewer", unfollowed := true, recurses := true, apart := false, narrowed := true }
def RanksFewerUptoSaid : Prop := ranksFewerUptoRow.holds Try.pinned (OpenSpec.upto ranksFewerSpec)

/-- 'stopwatchlaw25.RanksCounts', WHERE WHAT IT READS IS OF BULK AT MOST 1048576: true; the input reads as it did. -/
def ranksCountsUptoRow : OpenClaim := { program := "ythandbiapckgkaa", sum := "9643b14152ba30859e97d207e0b737328c7e380c6e7545a48ddbc2c49158f5e1", func := "stopwatch/stopwatchlaw25.RanksCounts", spec := "ranksCounts", unfollowed := true, recurses := true, apart := false, narrowed := true }
def RanksCountsUptoSaid : Prop := ranksCountsUptoRow.holds Try.pinned (OpenSpec.upto ranksCountsSpec)

/-- 'stopwatchlaw25.RanksBestSpec', WHERE WHAT IT READS IS OF BULK AT MOST 1048576: true; the input reads as it did. -/
def ranksBestSpecUptoRow : OpenClaim := { program := "ythandbiapckgkaa", sum := "9643b14152ba30859e97d207e0b737328c7e380c6e7545a48ddbc2c49158f5e1", func := "stopwatch/stopwatchlaw25.RanksBestSpec", spec := "ranksBestSpec", unfollowed := true, recurses := true, apart := false, narrowed := true }
def RanksBestSpecUptoSaid : Prop := ranksBestSpecUptoRow.holds Try.pinned (OpenSpec.upto ranksBestSpecSpec)

end Rows
end Go.Proofs.Ythandbiapckgkaa

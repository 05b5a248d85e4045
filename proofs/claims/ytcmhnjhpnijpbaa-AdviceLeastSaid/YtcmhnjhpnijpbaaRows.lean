/-
  NARROWER THAN 'FOR EVERY INPUT', by the rows' own cells (each row's printed sentence says how): AdviceCheckSpec: loops · AdviceDepthSpec: loops · AdviceSpoiled: loops · AdviceFollowed: loops.
  DERIVED. THE GIVEN ROWS OF THIS SEAT. 8 by the template 'for every input the law returns true; each argument reads behind the call as it read before'; 0 by the template 'total and deterministic' (their statements: YtcmhnjhpnijpbaaTotals.lean).
  GIVEN WITH THE SEED: the statements are not yours to turn. If you find one false, say at which input.
  Laid BY PROGRAM, IN A SANDBOX (cutbox-rows.mjs): the forced cells as the released guide's own fill.sh prints them over the translation 5dfde28531ae8920… (all of the seat's roots in one cut). By AI agents, Wed Nov 11 2026. No macro, syntax, notation, axiom, sorry.
-/
import Derived.Test.YtcmhnjhpnijpbaaChecked
import GoSem.Claim
import GoSem.ClaimJoined
import GoSem.ClaimMapViews
import Derived.JoinedTies
import Derived.KernelRfl
namespace Go.Proofs.Ytcmhnjhpnijpbaa
/- THE CELL 'sum', in the pinned program and in every row, IS THE sha256 OF THE DUMP (.gsa) THAT YtcmhnjhpnijpbaaProg.lean LOADS. Nothing in Lean hashes anything: it is a label: what it is worth is what the hold of that sum in a sandbox is worth. -/
noncomputable def Try.pinned : Pinned := { name := "ytcmhnjhpnijpbaa", sum := "5dfde28531ae892020766ee54002a6e8c744a5ca24c5d4131f34ddb545ed6aaf", checked := Try.checked }
namespace Rows
def none {H : Type} : Left H := { results := [], args := [] }

/-- 'stopwatchlaw37.AdviceCheckSpec': WHATEVER THE INPUT: true; the input reads as it did. -/
def adviceCheckSpecSpec : ChangeSpec := { name := "adviceCheckSpec", fn := fun _ => fun
  | [d1, d2] => { results := [.lit (.bool true)], args := [d1, d2] }
  | _ => none }
def adviceCheckSpecRow : OpenClaim := { program := "ytcmhnjhpnijpbaa", sum := "5dfde28531ae892020766ee54002a6e8c744a5ca24c5d4131f34ddb545ed6aaf", func := "stopwatch/stopwatchlaw37.AdviceCheckSpec", spec := "adviceCheckSpec", unfollowed := true, recurses := true, loops := true, apart := false }
def AdviceCheckSpecSaid : Prop := adviceCheckSpecRow.holds Try.pinned (OpenSpec.ofChange adviceCheckSpecSpec)

/-- ITS FALSE NEIGHBOUR: 'it returns false'. Refute it at one input. -/
def adviceCheckSpecWrong : ChangeSpec := { name := "adviceCheckSpec", fn := fun _ => fun
  | [d1, d2] => { results := [.lit (.bool false)], args := [d1, d2] }
  | _ => none }
def AdviceCheckSpecWrongFalsely : Prop := adviceCheckSpecRow.holds Try.pinned (OpenSpec.ofChange adviceCheckSpecWrong)

/-- 'stopwatchlaw37.AdviceDepthSpec': WHATEVER THE INPUT: true; the input reads as it did. -/
def adviceDepthSpecSpec : ChangeSpec := { name := "adviceDepthSpec", fn := fun _ => fun
  | [d1, d2] => { results := [.lit (.bool true)], args := [d1, d2] }
  | _ => none }
def adviceDepthSpecRow : OpenClaim := { program := "ytcmhnjhpnijpbaa", sum := "5dfde28531ae892020766ee54002a6e8c744a5ca24c5d4131f34ddb545ed6aaf", func := "stopwatch/stopwatchlaw37.AdviceDepthSpec", spec := "adviceDepthSpec", unfollowed := true, recurses := true, loops := true, apart := false }
def AdviceDepthSpecSaid : Prop := adviceDepthSpecRow.holds Try.pinned (OpenSpec.ofChange adviceDepthSpecSpec)

/-- ITS FALSE NEIGHBOUR: 'it returns false'. Refute it at one input. -/
def adviceDepthSpecWrong : ChangeSpec := { name := "adviceDepthSpec", fn := fun _ => fun
  | [d1, d2] => { results := [.lit (.bool false)], args := [d1, d2] }
  | _ => none }
def AdviceDepthSpecWrongFalsely : Prop := adviceDepthSpecRow.holds Try.pinned (OpenSpec.ofChange adviceDepthSpecWrong)

/-- 'stopwatchlaw37.AdviceEnoughSpec': WHATEVER THE INPUT: true; the input reads as it did. -/
def adviceEnoughSpecSpec : ChangeSpec := { name := "adviceEnoughSpec", fn := fun _ => fun
  | [d1, d2, d3] => { results := [.lit (.bool true)], args := [d1, d2, d3] }
  | _ => none }
def adviceEnoughSpecRow : OpenClaim := { program := "ytcmhnjhpnijpbaa", sum := "5dfde28531ae892020766ee54002a6e8c744a5ca24c5d4131f34ddb545ed6aaf", func := "stopwatch/stopwatchlaw37.AdviceEnoughSpec", spec := "adviceEnoughSpec", unfollowed := true, recurses := true, apart := false }
def AdviceEnoughSpecSaid : Prop := adviceEnoughSpecRow.holds Try.pinned (OpenSpec.ofChange adviceEnoughSpecSpec)

/-- ITS FALSE NEIGHBOUR: 'it returns false'. Refute it at one input. -/
def adviceEnoughSpecWrong : ChangeSpec := { name := "adviceEnoughSpec", fn := fun _ => fun
  | [d1, d2, d3] => { results := [.lit (.bool false)], args := [d1, d2, d3] }
  | _ => none }
def AdviceEnoughSpecWrongFalsely : Prop := adviceEnoughSpecRow.holds Try.pinned (OpenSpec.ofChange adviceEnoughSpecWrong)

/-- 'stopwatchlaw37.AdviceMore': WHATEVER THE INPUT: true; the input reads as it did. -/
def adviceMoreSpec : ChangeSpec := { name := "adviceMore", fn := fun _ => fun
  | [d1, d2] => { results := [.lit (.bool true)], args := [d1, d2] }
  | _ => none }
def adviceMoreRow : OpenClaim := { program := "ytcmhnjhpnijpbaa", sum := "5dfde28531ae892020766ee54002a6e8c744a5ca24c5d4131f34ddb545ed6aaf", func := "stopwatch/stopwatchlaw37.AdviceMore", spec := "adviceMore", unfollowed := true, recurses := true, apart := false }
def AdviceMoreSaid : Prop := adviceMoreRow.holds Try.pinned (OpenSpec.ofChange adviceMoreSpec)

/-- ITS FALSE NEIGHBOUR: 'it returns false'. Refute it at one input. -/
def adviceMoreWrong : ChangeSpec := { name := "adviceMore", fn := fun _ => fun
  | [d1, d2] => { results := [.lit (.bool false)], args := [d1, d2] }
  | _ => none }
def AdviceMoreWrongFalsely : Prop := adviceMoreRow.holds Try.pinned (OpenSpec.ofChange adviceMoreWrong)

/-- 'stopwatchlaw37.AdviceSpoiled': WHATEVER THE INPUT: true; the input reads as it did. -/
def adviceSpoiledSpec : ChangeSpec := { name := "adviceSpoiled", fn := fun _ => fun
  | [d1, d2] => { results := [.lit (.bool true)], args := [d1, d2] }
  | _ => none }
def adviceSpoiledRow : OpenClaim := { program := "ytcmhnjhpnijpbaa", sum := "5dfde28531ae892020766ee54002a6e8c744a5ca24c5d4131f34ddb545ed6aaf", func := "stopwatch/stopwatchlaw37.AdviceSpoiled", spec := "adviceSpoiled", unfollowed := true, recurses := true, loops := true, apart := false }
def AdviceSpoiledSaid : Prop := adviceSpoiledRow.holds Try.pinned (OpenSpec.ofChange adviceSpoiledSpec)

/-- ITS FALSE NEIGHBOUR: 'it returns false'. Refute it at one input. -/
def adviceSpoiledWrong : ChangeSpec := { name := "adviceSpoiled", fn := fun _ => fun
  | [d1, d2] => { results := [.lit (.bool false)], args := [d1, d2] }
  | _ => none }
def AdviceSpoiledWrongFalsely : Prop := adviceSpoiledRow.holds Try.pinned (OpenSpec.ofChange adviceSpoiledWrong)

/-- 'stopwatchlaw37.AdviceFollowed': WHATEVER THE INPUT: true; the input reads as it did. -/
def adviceFollowedSpec : ChangeSpec := { name := "adviceFollowed", fn := fun _ => fun
  | [d1, d2, d3] => { results := [.lit (.bool true)], args := [d1, d2, d3] }
  | _ => none }
def adviceFollowedRow : OpenClaim := { program := "ytcmhnjhpnijpbaa", sum := "5dfde28531ae892020766ee54002a6e8c744a5ca24c5d4131f34ddb545ed6aaf", func := "stopwatch/stopwatchlaw37.AdviceFollowed", spec := "adviceFollowed", unfollowed := true, recurses := true, loops := true, apart := false }
def AdviceFollowedSaid : Prop := adviceFollowedRow.holds Try.pinned (OpenSpec.ofChange adviceFollowedSpec)

/-- ITS FALSE NEIGHBOUR: 'it returns false'. Refute it at one input. -/
def adviceFollowedWrong : ChangeSpec := { name := "adviceFollowed", fn := fun _ => fun
  | [d1, d2, d3] => { results := [.lit (.bool false)], args := [d1, d2, d3] }
  | _ => none }
def AdviceFollowedWrongFalsely : Prop := adviceFollowedRow.holds Try.pinned (OpenSpec.ofChange adviceFollowedWrong)

/-- 'stopwatchlaw37.AdviceGreedy': WHATEVER THE INPUT: true; the input reads as it did. -/
def adviceGreedySpec : ChangeSpec := { name := "adviceGreedy", fn := fun _ => fun
  | [d] => { results := [.lit (.bool true)], args := [d] }
  | _ => none }
def adviceGreedyRow : OpenClaim := { program := "ytcmhnjhpnijpbaa", sum := "5dfde28531ae892020766ee54002a6e8c744a5ca24c5d4131f34ddb545ed6aaf", func := "stopwatch/stopwatchlaw37.AdviceGreedy", spec := "adviceGreedy", unfollowed := true, recurses := true, apart := false }
def AdviceGreedySaid : Prop := adviceGreedyRow.holds Try.pinned (OpenSpec.ofChange adviceGreedySpec)

/-- ITS FALSE NEIGHBOUR: 'it returns false'. Refute it at one input. -/
def adviceGreedyWrong : ChangeSpec := { name := "adviceGreedy", fn := fun _ => fun
  | [d] => { results := [.lit (.bool false)], args := [d] }
  | _ => none }
def AdviceGreedyWrongFalsely : Prop := adviceGreedyRow.holds Try.pinned (OpenSpec.ofChange adviceGreedyWrong)

/-- 'stopwatchlaw37.AdviceLeast': WHATEVER THE INPUT: true; the input reads as it did. -/
def adviceLeastSpec : ChangeSpec := { name := "adviceLeast", fn := fun _ => fun
  | [d] => { results := [.lit (.bool true)], args := [d] }
  | _ => none }
def adviceLeastRow : OpenClaim := { program := "ytcmhnjhpnijpbaa", sum := "5dfde28531ae892020766ee54002a6e8c744a5ca24c5d4131f34ddb545ed6aaf", func := "stopwatch/stopwatchlaw37.AdviceLeast", spec := "adviceLeast", unfollowed := true, recurses := true, apart := false }
def AdviceLeastSaid : Prop := adviceLeastRow.holds Try.pinned (OpenSpec.ofChange adviceLeastSpec)

/-- ITS FALSE NEIGHBOUR: 'it returns false'. Refute it at one input. -/
def adviceLeastWrong : ChangeSpec := { name := "adviceLeast", fn := fun _ => fun
  | [d] => { results := [.lit (.bool false)], args := [d] }
  | _ => none }
def AdviceLeastWrongFalsely : Prop := adviceLeastRow.holds Try.pinned (OpenSpec.ofChange adviceLeastWrong)

/- THE SECOND FORM. 'bulk': how many values and letters a reading holds, each counted each time it is reached (what is shared counts as often as it is met; a slice's spare places count too). A statement '..UptoSaid' is the law's where the arguments, and the package variables that the reading takes, are together of bulk at most 1048576: NARROWER than '..Said'. Prove '..Said' where nothing that the law and all that it calls make is longer than what came in: it says more and counts as full. Else prove '..UptoSaid'. A law counts once. -/
mutual
def uptoBulk {H : Type} : DataW H → Nat
  | .lit (.string bytes) => bytes.length + 1
  | .lit _ => 1
  | .nil => 1
  | .ptr d => uptoBulk d + 1
  | .slice elems spare => uptoBulkAll elems + uptoBulkAll spare + 1
  | .agg parts => uptoBulkAll parts + 1
  | .iface _ d => uptoBulk d + 1
  | .map entries => uptoBulkEntries entries + 1
  | .held _ => 1
def uptoBulkAll {H : Type} : List (DataW H) → Nat
  | [] => 0
  | d :: r => uptoBulk d + uptoBulkAll r
def uptoBulkEntries {H : Type} : List (Lit × DataW H) → Nat
  | [] => 0
  | x :: r => uptoBulkEntry x + uptoBulkEntries r
def uptoBulkEntry {H : Type} : Lit × DataW H → Nat
  | (.string bytes, d) => bytes.length + uptoBulk d + 1
  | (_, d) => uptoBulk d + 1
 end
def uptoSmall : (H : Type) → List (DataW H) → Bool := fun _ ds => decide (uptoBulkAll ds ≤ 1048576)
def OpenSpec.upto (s : _root_.Go.ChangeSpec) : _root_.Go.OpenSpec := { _root_.Go.OpenSpec.ofChange s with cond := some uptoSmall }

/-- 'stopwatchlaw37.AdviceCheckSpec', WHERE WHAT IT READS IS OF BULK AT MOST 1048576: true; the input reads as it did. -/
def adviceCheckSpecUptoRow : OpenClaim := { program := "ytcmhnjhpnijpbaa", sum := "5dfde28531ae892020766ee54002a6e8c744a5ca24c5d4131f34ddb545ed6aaf", func := "stopwatch/stopwatchlaw37.AdviceCheckSpec", spec := "adviceCheckSpec", unfollowed := true, recurses := true, loops := true, apart := false, narrowed := true }
def AdviceCheckSpecUptoSaid : Prop := adviceCheckSpecUptoRow.holds Try.pinned (OpenSpec.upto adviceCheckSpecSpec)

/-- 'stopwatchlaw37.AdviceDepthSpec', WHERE WHAT IT READS IS OF BULK AT MOST 1048576: true; the input reads as it did. -/
def adviceDepthSpecUptoRow : OpenClaim := { program := "ytcmhnjhpnijpbaa", sum := "5dfde28531ae892020766ee54002a6e8c744a5ca24c5d4131f34ddb545ed6aaf", func := "stopwatch/stopwatchlaw37.AdviceDepthSpec", spec := "adviceDepthSpec", unfollowed := true, recurses := true, loops := true, apart := false, narrowed := true }
def AdviceDepthSpecUptoSaid : Prop := adviceDepthSpecUptoRow.holds Try.pinned (OpenSpec.upto adviceDepthSpecSpec)

/-- 'stopwatchlaw37.AdviceEnoughSpec', WHERE WHAT IT READS IS OF BULK AT MOST 1048576: true; the input reads as it did. -/
def adviceEnoughSpecUptoRow : OpenClaim := { program := "ytcmhnjhpnijpbaa", sum := "5dfde28531ae892020766ee54002a6e8c744a5ca24c5d4131f34ddb545ed6aaf", func := "stopwatch/stopwatchlaw37.AdviceEnoughSpec", spec := "adviceEnoughSpec", unfollowed := true, recurses := true, apart := false, narrowed := true }
def AdviceEnoughSpecUptoSaid : Prop := adviceEnoughSpecUptoRow.holds Try.pinned (OpenSpec.upto adviceEnoughSpecSpec)

/-- 'stopwatchlaw37.AdviceMore', WHERE WHAT IT READS IS OF BULK AT MOST 1048576: true; the input reads as it did. -/
def adviceMoreUptoRow : OpenClaim := { program := "ytcmhnjhpnijpbaa", sum := "5dfde28531ae892020766ee54002a6e8c744a5ca24c5d4131f34ddb545ed6aaf", func := "stopwatch/stopwatchlaw37.AdviceMore", spec := "adviceMore", unfollowed := true, recurses := true, apart := false, narrowed := true }
def AdviceMoreUptoSaid : Prop := adviceMoreUptoRow.holds Try.pinned (OpenSpec.upto adviceMoreSpec)

/-- 'stopwatchlaw37.AdviceSpoiled', WHERE WHAT IT READS IS OF BULK AT MOST 1048576: true; the input reads as it did. -/
def adviceSpoiledUptoRow : OpenClaim := { program := "ytcmhnjhpnijpbaa", sum := "5dfde28531ae892020766ee54002a6e8c744a5ca24c5d4131f34ddb545ed6aaf", func := "stopwatch/stopwatchlaw37.AdviceSpoiled", spec := "adviceSpoiled", unfollowed := true, recurses := true, loops := true, apart := false, narrowed := true }
def AdviceSpoiledUptoSaid : Prop := adviceSpoiledUptoRow.holds Try.pinned (OpenSpec.upto adviceSpoiledSpec)

/-- 'stopwatchlaw37.AdviceFollowed', WHERE WHAT IT READS IS OF BULK AT MOST 1048576: true; the input reads as it did. -/
def adviceFollowedUptoRow : OpenClaim := { program := "ytcmhnjhpnijpbaa", sum := "5dfde28531ae892020766ee54002a6e8c744a5ca24c5d4131f34ddb545ed6aaf", func := "stopwatch/stopwatchlaw37.AdviceFollowed", spec := "adviceFollowed", unfollowed := true, recurses := true, loops := true, apart := false, narrowed := true }
def AdviceFollowedUptoSaid : Prop := adviceFollowedUptoRow.holds Try.pinned (OpenSpec.upto adviceFollowedSpec)

/-- 'stopwatchlaw37.AdviceGreedy', WHERE WHAT IT READS IS OF BULK AT MOST 1048576: true; the input reads as it did. -/
def adviceGreedyUptoRow : OpenClaim := { program := "ytcmhnjhpnijpbaa", sum := "5dfde28531ae892020766ee54002a6e8c744a5ca24c5d4131f34ddb545ed6aaf", func := "stopwatch/stopwatchlaw37.AdviceGreedy", spec := "adviceGreedy", unfollowed := true, recurses := true, apart := false, narrowed := true }
def AdviceGreedyUptoSaid : Prop := adviceGreedyUptoRow.holds Try.pinned (OpenSpec.upto adviceGreedySpec)

/-- 'stopwatchlaw37.AdviceLeast', WHERE WHAT IT READS IS OF BULK AT MOST 1048576: true; the input reads as it did. -/
def adviceLeastUptoRow : OpenClaim := { program := "ytcmhnjhpnijpbaa", sum := "5dfde28531ae892020766ee54002a6e8c744a5ca24c5d4131f34ddb545ed6aaf", func := "stopwatch/stopwatchlaw37.AdviceLeast", spec := "adviceLeast", unfollowed := true, recurses := true, apart := false, narrowed := true }
def AdviceLeastUptoSaid : Prop := adviceLeastUptoRow.holds Try.pinned (OpenSpec.upto adviceLeastSpec)

end Rows
end Go.Proofs.Ytcmhnjhpnijpbaa

/-
  No cell of these rows narrows 'for every input' (looked for: loops, veiled, ifaces, maps, wideKeys, modest, calm, conditions, laid).
  DERIVED. THE GIVEN ROWS OF THIS SEAT. 7 by the template 'for every input the law returns true; each argument reads behind the call as it read before'; 0 by the template 'total and deterministic' (their statements: YtobjgfhbhhcfeaaTotals.lean).
  GIVEN WITH THE SEED: the statements are not yours to turn. If you find one false, say at which input.
  Laid BY PROGRAM, IN A SANDBOX (cutbox-rows.mjs): the forced cells as the released guide's own fill.sh prints them over the translation 9c28dd49bebe8b3f… (all of the seat's roots in one cut). By AI agents, Wed Nov 11 2026. No macro, syntax, notation, axiom, sorry.
-/
import Derived.Test.YtobjgfhbhhcfeaaChecked
import GoSem.Claim
import GoSem.ClaimJoined
import GoSem.ClaimMapViews
import Derived.JoinedTies
import Derived.KernelRfl
namespace Go.Proofs.Ytobjgfhbhhcfeaa
/- THE CELL 'sum', in the pinned program and in every row, IS THE sha256 OF THE DUMP (.gsa) THAT YtobjgfhbhhcfeaaProg.lean LOADS. Nothing in Lean hashes anything: it is a label: what it is worth is what the hold of that sum in a sandbox is worth. -/
noncomputable def Try.pinned : Pinned := { name := "ytobjgfhbhhcfeaa", sum := "9c28dd49bebe8b3fce1566a479a36ff50e79c71fce692d0fc5247e0332fe4f39", checked := Try.checked }
namespace Rows
def none {H : Type} : Left H := { results := [], args := [] }

/-- 'stopwatchlaw36.LooksAfterSpec': WHATEVER THE INPUT: true; the input reads as it did. -/
def looksAfterSpecSpec : ChangeSpec := { name := "looksAfterSpec", fn := fun _ => fun
  | [d1, d2, d3] => { results := [.lit (.bool true)], args := [d1, d2, d3] }
  | _ => none }
def looksAfterSpecRow : OpenClaim := { program := "ytobjgfhbhhcfeaa", sum := "9c28dd49bebe8b3fce1566a479a36ff50e79c71fce692d0fc5247e0332fe4f39", func := "stopwatch/stopwatchlaw36.LooksAfterSpec", spec := "looksAfterSpec", unfollowed := true, recurses := true, apart := false }
def LooksAfterSpecSaid : Prop := looksAfterSpecRow.holds Try.pinned (OpenSpec.ofChange looksAfterSpecSpec)

/-- ITS FALSE NEIGHBOUR: 'it returns false'. Refute it at one input. -/
def looksAfterSpecWrong : ChangeSpec := { name := "looksAfterSpec", fn := fun _ => fun
  | [d1, d2, d3] => { results := [.lit (.bool false)], args := [d1, d2, d3] }
  | _ => none }
def LooksAfterSpecWrongFalsely : Prop := looksAfterSpecRow.holds Try.pinned (OpenSpec.ofChange looksAfterSpecWrong)

/-- 'stopwatchlaw36.LooksLeastSpec': WHATEVER THE INPUT: true; the input reads as it did. -/
def looksLeastSpecSpec : ChangeSpec := { name := "looksLeastSpec", fn := fun _ => fun
  | [d1, d2] => { results := [.lit (.bool true)], args := [d1, d2] }
  | _ => none }
def looksLeastSpecRow : OpenClaim := { program := "ytobjgfhbhhcfeaa", sum := "9c28dd49bebe8b3fce1566a479a36ff50e79c71fce692d0fc5247e0332fe4f39", func := "stopwatch/stopwatchlaw36.LooksLeastSpec", spec := "looksLeastSpec", unfollowed := true, recurses := true, apart := false }
def LooksLeastSpecSaid : Prop := looksLeastSpecRow.holds Try.pinned (OpenSpec.ofChange looksLeastSpecSpec)

/-- ITS FALSE NEIGHBOUR: 'it returns false'. Refute it at one input. -/
def looksLeastSpecWrong : ChangeSpec := { name := "looksLeastSpec", fn := fun _ => fun
  | [d1, d2] => { results := [.lit (.bool false)], args := [d1, d2] }
  | _ => none }
def LooksLeastSpecWrongFalsely : Prop := looksLeastSpecRow.holds Try.pinned (OpenSpec.ofChange looksLeastSpecWrong)

/-- 'stopwatchlaw36.LooksGreedySpec': WHATEVER THE INPUT: true; the input reads as it did. -/
def looksGreedySpecSpec : ChangeSpec := { name := "looksGreedySpec", fn := fun _ => fun
  | [d] => { results := [.lit (.bool true)], args := [d] }
  | _ => none }
def looksGreedySpecRow : OpenClaim := { program := "ytobjgfhbhhcfeaa", sum := "9c28dd49bebe8b3fce1566a479a36ff50e79c71fce692d0fc5247e0332fe4f39", func := "stopwatch/stopwatchlaw36.LooksGreedySpec", spec := "looksGreedySpec", unfollowed := true, recurses := true, apart := false }
def LooksGreedySpecSaid : Prop := looksGreedySpecRow.holds Try.pinned (OpenSpec.ofChange looksGreedySpecSpec)

/-- ITS FALSE NEIGHBOUR: 'it returns false'. Refute it at one input. -/
def looksGreedySpecWrong : ChangeSpec := { name := "looksGreedySpec", fn := fun _ => fun
  | [d] => { results := [.lit (.bool false)], args := [d] }
  | _ => none }
def LooksGreedySpecWrongFalsely : Prop := looksGreedySpecRow.holds Try.pinned (OpenSpec.ofChange looksGreedySpecWrong)

/-- 'stopwatchlaw36.LooksLeast': WHATEVER THE INPUT: true; the input reads as it did. -/
def looksLeastSpec : ChangeSpec := { name := "looksLeast", fn := fun _ => fun
  | [d] => { results := [.lit (.bool true)], args := [d] }
  | _ => none }
def looksLeastRow : OpenClaim := { program := "ytobjgfhbhhcfeaa", sum := "9c28dd49bebe8b3fce1566a479a36ff50e79c71fce692d0fc5247e0332fe4f39", func := "stopwatch/stopwatchlaw36.LooksLeast", spec := "looksLeast", unfollowed := true, recurses := true, apart := false }
def LooksLeastSaid : Prop := looksLeastRow.holds Try.pinned (OpenSpec.ofChange looksLeastSpec)

/-- ITS FALSE NEIGHBOUR: 'it returns false'. Refute it at one input. -/
def looksLeastWrong : ChangeSpec := { name := "looksLeast", fn := fun _ => fun
  | [d] => { results := [.lit (.bool false)], args := [d] }
  | _ => none }
def LooksLeastWrongFalsely : Prop := looksLeastRow.holds Try.pinned (OpenSpec.ofChange looksLeastWrong)

/-- 'stopwatchlaw36.LooksMore': WHATEVER THE INPUT: true; the input reads as it did. -/
def looksMoreSpec : ChangeSpec := { name := "looksMore", fn := fun _ => fun
  | [d1, d2] => { results := [.lit (.bool true)], args := [d1, d2] }
  | _ => none }
def looksMoreRow : OpenClaim := { program := "ytobjgfhbhhcfeaa", sum := "9c28dd49bebe8b3fce1566a479a36ff50e79c71fce692d0fc5247e0332fe4f39", func := "stopwatch/stopwatchlaw36.LooksMore", spec := "looksMore", unfollowed := true, recurses := true, apart := false }
def LooksMoreSaid : Prop := looksMoreRow.holds Try.pinned (OpenSpec.ofChange looksMoreSpec)

/-- ITS FALSE NEIGHBOUR: 'it returns false'. Refute it at one input. -/
def looksMoreWrong : ChangeSpec := { name := "looksMore", fn := fun _ => fun
  | [d1, d2] => { results := [.lit (.bool false)], args := [d1, d2] }
  | _ => none }
def LooksMoreWrongFalsely : Prop := looksMoreRow.holds Try.pinned (OpenSpec.ofChange looksMoreWrong)

/-- 'stopwatchlaw36.LooksFound': WHATEVER THE INPUT: true; the input reads as it did. -/
def looksFoundSpec : ChangeSpec := { name := "looksFound", fn := fun _ => fun
  | [d1, d2] => { results := [.lit (.bool true)], args := [d1, d2] }
  | _ => none }
def looksFoundRow : OpenClaim := { program := "ytobjgfhbhhcfeaa", sum := "9c28dd49bebe8b3fce1566a479a36ff50e79c71fce692d0fc5247e0332fe4f39", func := "stopwatch/stopwatchlaw36.LooksFound", spec := "looksFound", unfollowed := true, recurses := true, apart := false }
def LooksFoundSaid : Prop := looksFoundRow.holds Try.pinned (OpenSpec.ofChange looksFoundSpec)

/-- ITS FALSE NEIGHBOUR: 'it returns false'. Refute it at one input. -/
def looksFoundWrong : ChangeSpec := { name := "looksFound", fn := fun _ => fun
  | [d1, d2] => { results := [.lit (.bool false)], args := [d1, d2] }
  | _ => none }
def LooksFoundWrongFalsely : Prop := looksFoundRow.holds Try.pinned (OpenSpec.ofChange looksFoundWrong)

/-- 'stopwatchlaw36.LooksNarrow': WHATEVER THE INPUT: true; the input reads as it did. -/
def looksNarrowSpec : ChangeSpec := { name := "looksNarrow", fn := fun _ => fun
  | [d1, d2, d3, d4] => { results := [.lit (.bool true)], args := [d1, d2, d3, d4] }
  | _ => none }
def looksNarrowRow : OpenClaim := { program := "ytobjgfhbhhcfeaa", sum := "9c28dd49bebe8b3fce1566a479a36ff50e79c71fce692d0fc5247e0332fe4f39", func := "stopwatch/stopwatchlaw36.LooksNarrow", spec := "looksNarrow", unfollowed := true, recurses := true, apart := false }
def LooksNarrowSaid : Prop := looksNarrowRow.holds Try.pinned (OpenSpec.ofChange looksNarrowSpec)

/-- ITS FALSE NEIGHBOUR: 'it returns false'. Refute it at one input. -/
def looksNarrowWrong : ChangeSpec := { name := "looksNarrow", fn := fun _ => fun
  | [d1, d2, d3, d4] => { results := [.lit (.bool false)], args := [d1, d2, d3, d4] }
  | _ => none }
def LooksNarrowWrongFalsely : Prop := looksNarrowRow.holds Try.pinned (OpenSpec.ofChange looksNarrowWrong)

/- THE SECOND FORM. 'bulk': how many values and letters a reading holds, each counted each time it is reached (what is shared counts as often as it is met; a slice's spare places count too). A statement '..UptoSaid' is the law's where the arguments, and the package variables that the reading takes, are together of bulk at most 1048576: NARROWER than '..Said'. Prove '..Said' where nothing that the law and all that it calls make is longer than what came in: it says more and counts as full. Else prove '..UptoSaid'. A law counts once. -/
mutual
def uptoBulk {H : Type} : DataW H → Nat
  | .lit (.string bytes) => bytes.length + 1
  | .lit _ => 1
  | .nil => 1
  | .ptr d => uptoBulk d + 1
  | .slice elems spare => uptoBulkAll elems + uptoBulkAll spare + 1
  | .agg parts => uptoBulkAll parts + 1
  | .iface _ d => uptoBulk d + 1
  | .map entries => uptoBulkEntries entries + 1
  | .held _ => 1
def uptoBulkAll {H : Type} : List (DataW H) → Nat
  | [] => 0
  | d :: r => uptoBulk d + uptoBulkAll r
def uptoBulkEntries {H : Type} : List (Lit × DataW H) → Nat
  | [] => 0
  | x :: r => uptoBulkEntry x + uptoBulkEntries r
def uptoBulkEntry {H : Type} : Lit × DataW H → Nat
  | (.string bytes, d) => bytes.length + uptoBulk d + 1
  | (_, d) => uptoBulk d + 1
 end
def uptoSmall : (H : Type) → List (DataW H) → Bool := fun _ ds => decide (uptoBulkAll ds ≤ 1048576)
def OpenSpec.upto (s : _root_.Go.ChangeSpec) : _root_.Go.OpenSpec := { _root_.Go.OpenSpec.ofChange s with cond := some uptoSmall }

/-- 'stopwatchlaw36.LooksAfterSpec', WHERE WHAT IT READS IS OF BULK AT MOST 1048576: true; the input reads as it did. -/
def looksAfterSpecUptoRow : OpenClaim := { program := "ytobjgfhbhhcfeaa", sum := "9c28dd49bebe8b3fce1566a479a36ff50e79c71fce692d0fc5247e0332fe4f39", func := "stopwatch/stopwatchlaw36.LooksAfterSpec", spec := "looksAfterSpec", unfollowed := true, recurses := true, apart := false, narrowed := true }
def LooksAfterSpecUptoSaid : Prop := looksAfterSpecUptoRow.holds Try.pinned (OpenSpec.upto looksAfterSpecSpec)

/-- 'stopwatchlaw36.LooksLeastSpec', WHERE WHAT IT READS IS OF BULK AT MOST 1048576: true; the input reads as it did. -/
def looksLeastSpecUptoRow : OpenClaim := { program := "ytobjgfhbhhcfeaa", sum := "9c28dd49bebe8b3fce1566a479a36ff50e79c71fce692d0fc5247e0332fe4f39", func := "stopwatch/stopwatchlaw36.LooksLeastSpec", spec := "looksLeastSpec", unfollowed := true, recurses := true, apart := false, narrowed := true }
def LooksLeastSpecUptoSaid : Prop := looksLeastSpecUptoRow.holds Try.pinned (OpenSpec.upto looksLeastSpecSpec)

/-- 'stopwatchlaw36.LooksGreedySpec', WHERE WHAT IT READS IS OF BULK AT MOST 1048576: true; the input reads as it did. -/
def looksGreedySpecUptoRow : OpenClaim := { program := "ytobjgfhbhhcfeaa", sum := "9c28dd49bebe8b3fce1566a479a36ff50e79c71fce692d0fc5247e0332fe4f39", func := "stopwatch/stopwatchlaw36.LooksGreedySpec", spec := "looksGreedySpec", unfollowed := true, recurses := true, apart := false, narrowed := true }
def LooksGreedySpecUptoSaid : Prop := looksGreedySpecUptoRow.holds Try.pinned (OpenSpec.upto looksGreedySpecSpec)

/-- 'stopwatchlaw36.LooksLeast', WHERE WHAT IT READS IS OF BULK AT MOST 1048576: true; the input reads as it did. -/
def looksLeastUptoRow : OpenClaim := { program := "ytobjgfhbhhcfeaa", sum := "9c28dd49bebe8b3fce1566a479a36ff50e79c71fce692d0fc5247e0332fe4f39", func := "stopwatch/stopwatchlaw36.LooksLeast", spec := "looksLeast", unfollowed := true, recurses := true, apart := false, narrowed := true }
def LooksLeastUptoSaid : Prop := looksLeastUptoRow.holds Try.pinned (OpenSpec.upto looksLeastSpec)

/-- 'stopwatchlaw36.LooksMore', WHERE WHAT IT READS IS OF BULK AT MOST 1048576: true; the input reads as it did. -/
def looksMoreUptoRow : OpenClaim := { program := "ytobjgfhbhhcfeaa", sum := "9c28dd49bebe8b3fce1566a479a36ff50e79c71fce692d0fc5247e0332fe4f39", func := "stopwatch/stopwatchlaw36.LooksMore", spec := "looksMore", unfollowed := true, recurses := true, apart := false, narrowed := true }
def LooksMoreUptoSaid : Prop := looksMoreUptoRow.holds Try.pinned (OpenSpec.upto looksMoreSpec)

/-- 'stopwatchlaw36.LooksFound', WHERE WHAT IT READS IS OF BULK AT MOST 1048576: true; the input reads as it did. -/
def looksFoundUptoRow : OpenClaim := { program := "ytobjgfhbhhcfeaa", sum := "9c28dd49bebe8b3fce1566a479a36ff50e79c71fce692d0fc5247e0332fe4f39", func := "stopwatch/stopwatchlaw36.LooksFound", spec := "looksFound", unfollowed := true, recurses := true, apart := false, narrowed := true }
def LooksFoundUptoSaid : Prop := looksFoundUptoRow.holds Try.pinned (OpenSpec.upto looksFoundSpec)

/-- 'stopwatchlaw36.LooksNarrow', WHERE WHAT IT READS IS OF BULK AT MOST 1048576: true; the input reads as it did. -/
def looksNarrowUptoRow : OpenClaim := { program := "ytobjgfhbhhcfeaa", sum := "9c28dd49bebe8b3fce1566a479a36ff50e79c71fce692d0fc5247e0332fe4f39", func := "stopwatch/stopwatchlaw36.LooksNarrow", spec := "looksNarrow", unfollowed := true, recurses := true, apart := false, narrowed := true }
def LooksNarrowUptoSaid : Prop := looksNarrowUptoRow.holds Try.pinned (OpenSpec.upto looksNarrowSpec)

end Rows
end Go.Proofs.Ytobjgfhbhhcfeaa

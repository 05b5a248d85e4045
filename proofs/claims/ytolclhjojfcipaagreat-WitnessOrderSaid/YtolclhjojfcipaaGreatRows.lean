/-
  No cell of these rows narrows 'for every input' (looked for: loops, veiled, ifaces, maps, wideKeys, modest, calm, conditions, laid).
  DERIVED. THE GIVEN ROWS OF THIS SEAT. 6 by the template 'for every input the law returns true; each argument reads behind the call as it read before'; 0 by the template 'total and deterministic' (their statements: YtolclhjojfcipaaGreatTotals.lean).
  GIVEN WITH THE SEED: the statements are not yours to turn. If you find one false, say at which input.
  Laid BY PROGRAM, IN A SANDBOX (cutbox-rows.mjs): the forced cells as the released guide's own fill.sh prints them over the translation 37f974d14dbc488a… (all of the seat's roots in one cut). By AI agents, Wed Nov 11 2026. No macro, syntax, notation, axiom, sorry.
-/
import Derived.Test.YtolclhjojfcipaaGreatChecked
import GoSem.Claim
import GoSem.ClaimJoined
import GoSem.ClaimMapViews
import Derived.JoinedTies
import Derived.KernelRfl
namespace Go.Proofs.YtolclhjojfcipaaGreat
/- THE CELL 'sum', in the pinned program and in every row, IS THE sha256 OF THE DUMP (.gsa) THAT YtolclhjojfcipaaGreatProg.lean LOADS. Nothing in Lean hashes anything: it is a label: what it is worth is what the hold of that sum in a sandbox is worth. -/
noncomputable def Tryz.pinned : Pinned := { name := "ytolclhjojfcipaagreat", sum := "37f974d14dbc488a86bffa1400453082b14100b848983377563d2b1a685456a1", checked := Tryz.checked }
namespace Rows
def none {H : Type} : Left H := { results := [], args := [] }

/-- 'stopwatchlaw27.WitnessProveSpec': WHATEVER THE INPUT: true; the input reads as it did. -/
def witnessProveSpecSpec : ChangeSpec := { name := "witnessProveSpec", fn := fun _ => fun
  | [d1, d2] => { results := [.lit (.bool true)], args := [d1, d2] }
  | _ => none }
def witnessProveSpecRow : OpenClaim := { program := "ytolclhjojfcipaagreat", sum := "37f974d14dbc488a86bffa1400453082b14100b848983377563d2b1a685456a1", func := "stopwatch/stopwatchlaw27.WitnessProveSpec", spec := "witnessProveSpec", unfollowed := true, recurses := true, apart := false }
def WitnessProveSpecSaid : Prop := witnessProveSpecRow.holds Tryz.pinned (OpenSpec.ofChange witnessProveSpecSpec)

/-- ITS FALSE NEIGHBOUR: 'it returns false'. Refute it at one input. -/
def witnessProveSpecWrong : ChangeSpec := { name := "witnessProveSpec", fn := fun _ => fun
  | [d1, d2] => { results := [.lit (.bool false)], args := [d1, d2] }
  | _ => none }
def WitnessProveSpecWrongFalsely : Prop := witnessProveSpecRow.holds Tryz.pinned (OpenSpec.ofChange witnessProveSpecWrong)

/-- 'stopwatchlaw27.WitnessOrderSpec': WHATEVER THE INPUT: true; the input reads as it did. -/
def witnessOrderSpecSpec : ChangeSpec := { name := "witnessOrderSpec", fn := fun _ => fun
  | [d1, d2, d3] => { results := [.lit (.bool true)], args := [d1, d2, d3] }
  | _ => none }
def witnessOrderSpecRow : OpenClaim := { program := "ytolclhjojfcipaagreat", sum := "37f974d14dbc488a86bffa1400453082b14100b848983377563d2b1a685456a1", func := "stopwatch/stopwatchlaw27.WitnessOrderSpec", spec := "witnessOrderSpec", unfollowed := true, recurses := true, apart := false }
def WitnessOrderSpecSaid : Prop := witnessOrderSpecRow.holds Tryz.pinned (OpenSpec.ofChange witnessOrderSpecSpec)

/-- ITS FALSE NEIGHBOUR: 'it returns false'. Refute it at one input. -/
def witnessOrderSpecWrong : ChangeSpec := { name := "witnessOrderSpec", fn := fun _ => fun
  | [d1, d2, d3] => { results := [.lit (.bool false)], args := [d1, d2, d3] }
  | _ => none }
def WitnessOrderSpecWrongFalsely : Prop := witnessOrderSpecRow.holds Tryz.pinned (OpenSpec.ofChange witnessOrderSpecWrong)

/-- 'stopwatchlaw27.WitnessOpen': WHATEVER THE INPUT: true; the input reads as it did. -/
def witnessOpenSpec : ChangeSpec := { name := "witnessOpen", fn := fun _ => fun
  | [d1, d2] => { results := [.lit (.bool true)], args := [d1, d2] }
  | _ => none }
def witnessOpenRow : OpenClaim := { program := "ytolclhjojfcipaagreat", sum := "37f974d14dbc488a86bffa1400453082b14100b848983377563d2b1a685456a1", func := "stopwatch/stopwatchlaw27.WitnessOpen", spec := "witnessOpen", unfollowed := true, recurses := true, apart := false }
def WitnessOpenSaid : Prop := witnessOpenRow.holds Tryz.pinned (OpenSpec.ofChange witnessOpenSpec)

/-- ITS FALSE NEIGHBOUR: 'it returns false'. Refute it at one input. -/
def witnessOpenWrong : ChangeSpec := { name := "witnessOpen", fn := fun _ => fun
  | [d1, d2] => { results := [.lit (.bool false)], args := [d1, d2] }
  | _ => none }
def WitnessOpenWrongFalsely : Prop := witnessOpenRow.holds Tryz.pinned (OpenSpec.ofChange witnessOpenWrong)

/-- 'stopwatchlaw27.WitnessHolds': WHATEVER THE INPUT: true; the input reads as it did. -/
def witnessHoldsSpec : ChangeSpec := { name := "witnessHolds", fn := fun _ => fun
  | [d1, d2, d3] => { results := [.lit (.bool true)], args := [d1, d2, d3] }
  | _ => none }
def witnessHoldsRow : OpenClaim := { program := "ytolclhjojfcipaagreat", sum := "37f974d14dbc488a86bffa1400453082b14100b848983377563d2b1a685456a1", func := "stopwatch/stopwatchlaw27.WitnessHolds", spec := "witnessHolds", unfollowed := true, recurses := true, apart := false }
def WitnessHoldsSaid : Prop := witnessHoldsRow.holds Tryz.pinned (OpenSpec.ofChange witnessHoldsSpec)

/-- ITS FALSE NEIGHBOUR: 'it returns false'. Refute it at one input. -/
def witnessHoldsWrong : ChangeSpec := { name := "witnessHolds", fn := fun _ => fun
  | [d1, d2, d3] => { results := [.lit (.bool false)], args := [d1, d2, d3] }
  | _ => none }
def WitnessHoldsWrongFalsely : Prop := witnessHoldsRow.holds Tryz.pinned (OpenSpec.ofChange witnessHoldsWrong)

/-- 'stopwatchlaw27.WitnessExact': WHATEVER THE INPUT: true; the input reads as it did. -/
def witnessExactSpec : ChangeSpec := { name := "witnessExact", fn := fun _ => fun
  | [d1, d2, d3] => { results := [.lit (.bool true)], args := [d1, d2, d3] }
  | _ => none }
def witnessExactRow : OpenClaim := { program := "ytolclhjojfcipaagreat", sum := "37f974d14dbc488a86bffa1400453082b14100b848983377563d2b1a685456a1", func := "stopwatch/stopwatchlaw27.WitnessExact", spec := "witnessExact", unfollowed := true, recurses := true, apart := false }
def WitnessExactSaid : Prop := witnessExactRow.holds Tryz.pinned (OpenSpec.ofChange witnessExactSpec)

/-- ITS FALSE NEIGHBOUR: 'it returns false'. Refute it at one input. -/
def witnessExactWrong : ChangeSpec := { name := "witnessExact", fn := fun _ => fun
  | [d1, d2, d3] => { results := [.lit (.bool false)], args := [d1, d2, d3] }
  | _ => none }
def WitnessExactWrongFalsely : Prop := witnessExactRow.holds Tryz.pinned (OpenSpec.ofChange witnessExactWrong)

/-- 'stopwatchlaw27.WitnessOrder': WHATEVER THE INPUT: true; the input reads as it did. -/
def witnessOrderSpec : ChangeSpec := { name := "witnessOrder", fn := fun _ => fun
  | [d1, d2, d3] => { results := [.lit (.bool true)], args := [d1, d2, d3] }
  | _ => none }
def witnessOrderRow : OpenClaim := { program := "ytolclhjojfcipaagreat", sum := "37f974d14dbc488a86bffa1400453082b14100b848983377563d2b1a685456a1", func := "stopwatch/stopwatchlaw27.WitnessOrder", spec := "witnessOrder", unfollowed := true, recurses := true, apart := false }
def WitnessOrderSaid : Prop := witnessOrderRow.holds Tryz.pinned (OpenSpec.ofChange witnessOrderSpec)

/-- ITS FALSE NEIGHBOUR: 'it returns false'. Refute it at one input. -/
def witnessOrderWrong : ChangeSpec := { name := "witnessOrder", fn := fun _ => fun
  | [d1, d2, d3] => { results := [.lit (.bool false)], args := [d1, d2, d3] }
  | _ => none }
def WitnessOrderWrongFalsely : Prop := witnessOrderRow.holds Tryz.pinned (OpenSpec.ofChange witnessOrderWrong)

/- THE SECOND FORM. 'bulk': how many values and letters a reading holds, each counted each time it is reached (what is shared counts as often as it is met; a slice's spare places count too). A statement '..UptoSaid' is the law's where the arguments, and the package variables that the reading takes, are together of bulk at most 1048576: NARROWER than '..Said'. Prove '..Said' where nothing that the law and all that it calls make is longer than what came in: it says more and counts as full. Else prove '..UptoSaid'. A law counts once. -/
mutual
def uptoBulk {H : Type} : DataW H → Nat
  | .lit (.string bytes) => bytes.length + 1
  | .lit _ => 1
  | .nil => 1
  | .ptr d => uptoBulk d + 1
  | .slice elems spare => uptoBulkAll elems + uptoBulkAll spare + 1
  | .agg parts => uptoBulkAll parts + 1
  | .iface _ d => uptoBulk d + 1
  | .map entries => uptoBulkEntries entries + 1
  | .held _ => 1
def uptoBulkAll {H : Type} : List (DataW H) → Nat
  | [] => 0
  | d :: r => uptoBulk d + uptoBulkAll r
def uptoBulkEntries {H : Type} : List (Lit × DataW H) → Nat
  | [] => 0
  | x :: r => uptoBulkEntry x + uptoBulkEntries r
def uptoBulkEntry {H : Type} : Lit × DataW H → Nat
  | (.string bytes, d) => bytes.length + uptoBulk d + 1
  | (_, d) => uptoBulk d + 1
 end
def uptoSmall : (H : Type) → List (DataW H) → Bool := fun _ ds => decide (uptoBulkAll ds ≤ 1048576)
def OpenSpec.upto (s : _root_.Go.ChangeSpec) : _root_.Go.OpenSpec := { _root_.Go.OpenSpec.ofChange s with cond := some uptoSmall }

/-- 'stopwatchlaw27.WitnessProveSpec', WHERE WHAT IT READS IS OF BULK AT MOST 1048576: true; the input reads as it did. -/
def witnessProveSpecUptoRow : OpenClaim := { program := "ytolclhjojfcipaagreat", sum := "37f974d14dbc488a86bffa1400453082b14100b848983377563d2b1a685456a1", func := "stopwatch/stopwatchlaw27.WitnessProveSpec", spec := "witnessProveSpec", unfollowed := true, recurses := true, apart := false, narrowed := true }
def WitnessProveSpecUptoSaid : Prop := witnessProveSpecUptoRow.holds Tryz.pinned (OpenSpec.upto witnessProveSpecSpec)

/-- 'stopwatchlaw27.WitnessOrderSpec', WHERE WHAT IT READS IS OF BULK AT MOST 1048576: true; the input reads as it did. -/
def witnessOrderSpecUptoRow : OpenClaim := { program := "ytolclhjojfcipaagreat", sum := "37f974d14dbc488a86bffa1400453082b14100b848983377563d2b1a685456a1", func := "stopwatch/stopwatchlaw27.WitnessOrderSpec", spec := "witnessOrderSpec", unfollowed := true, recurses := true, apart := false, narrowed := true }
def WitnessOrderSpecUptoSaid : Prop := witnessOrderSpecUptoRow.holds Tryz.pinned (OpenSpec.upto witnessOrderSpecSpec)

/-- 'stopwatchlaw27.WitnessOpen', WHERE WHAT IT READS IS OF BULK AT MOST 1048576: true; the input reads as it did. -/
def witnessOpenUptoRow : OpenClaim := { program := "ytolclhjojfcipaagreat", sum := "37f974d14dbc488a86bffa1400453082b14100b848983377563d2b1a685456a1", func := "stopwatch/stopwatchlaw27.WitnessOpen", spec := "witnessOpen", unfollowed := true, recurses := true, apart := false, narrowed := true }
def WitnessOpenUptoSaid : Prop := witnessOpenUptoRow.holds Tryz.pinned (OpenSpec.upto witnessOpenSpec)

/-- 'stopwatchlaw27.WitnessHolds', WHERE WHAT IT READS IS OF BULK AT MOST 1048576: true; the input reads as it did. -/
def witnessHoldsUptoRow : OpenClaim := { program := "ytolclhjojfcipaagreat", sum := "37f974d14dbc488a86bffa1400453082b14100b848983377563d2b1a685456a1", func := "stopwatch/stopwatchlaw27.WitnessHolds", spec := "witnessHolds", unfollowed := true, recurses := true, apart := false, narrowed := true }
def WitnessHoldsUptoSaid : Prop := witnessHoldsUptoRow.holds Tryz.pinned (OpenSpec.upto witnessHoldsSpec)

/-- 'stopwatchlaw27.WitnessExact', WHERE WHAT IT READS IS OF BULK AT MOST 1048576: true; the input reads as it did. -/
def witnessExactUptoRow : OpenClaim := { program := "ytolclhjojfcipaagreat", sum := "37f974d14dbc488a86bffa1400453082b14100b848983377563d2b1a685456a1", func := "stopwatch/stopwatchlaw27.WitnessExact", spec := "witnessExact", unfollowed := true, recurses := true, apart := false, narrowed := true }
def WitnessExactUptoSaid : Prop := witnessExactUptoRow.holds Tryz.pinned (OpenSpec.upto witnessExactSpec)

/-- 'stopwatchlaw27.WitnessOrder', WHERE WHAT IT READS IS OF BULK AT MOST 1048576: true; the input reads as it did. -/
def witnessOrderUptoRow : OpenClaim := { program := "ytolclhjojfcipaagreat", sum := "37f974d14dbc488a86bffa1400453082b14100b848983377563d2b1a685456a1", func := "stopwatch/stopwatchlaw27.WitnessOrder", spec := "witnessOrder", unfollowed := true, recurses := true, apart := false, narrowed := true }
def WitnessOrderUptoSaid : Prop := witnessOrderUptoRow.holds Tryz.pinned (OpenSpec.upto witnessOrderSpec)

end Rows
end Go.Proofs.YtolclhjojfcipaaGreat

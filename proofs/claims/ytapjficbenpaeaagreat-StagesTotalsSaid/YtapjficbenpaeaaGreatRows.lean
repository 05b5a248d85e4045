/-
  No cell of these rows narrows 'for every input' (looked for: loops, veiled, ifaces, maps, wideKeys, modest, calm, conditions, laid).
  DERIVED. THE GIVEN ROWS OF THIS SEAT. 7 by the template 'for every input the law returns true; each argument reads behind the call as it read before'; 0 by the template 'total and deterministic' (their statements: YtapjficbenpaeaaGreatTotals.lean).
  GIVEN WITH THE SEED: the statements are not yours to turn. If you find one false, say at which input.
  Laid BY PROGRAM, IN A SANDBOX (cutbox-rows.mjs): the forced cells as the released guide's own fill.sh prints them over the translation 776a28c1fe7da301… (all of the seat's roots in one cut). By AI agents, Wed Nov 11 2026. No macro, syntax, notation, axiom, sorry.
-/
import Derived.Test.YtapjficbenpaeaaGreatChecked
import GoSem.Claim
import GoSem.ClaimJoined
import GoSem.ClaimMapViews
import Derived.JoinedTies
import Derived.KernelRfl
namespace Go.Proofs.YtapjficbenpaeaaGreat
/- THE CELL 'sum', in the pinned program and in every row, IS THE sha256 OF THE DUMP (.gsa) THAT YtapjficbenpaeaaGreatProg.lean LOADS. Nothing in Lean hashes anything: it is a label: what it is worth is what the hold of that sum in a sandbox is worth. -/
noncomputable def Tryz.pinned : Pinned := { name := "ytapjficbenpaeaagreat", sum := "776a28c1fe7da301a8d5d4a7294660f8fac44b73322d83d859a186692ab2f945", checked := Tryz.checked }
namespace Rows
def none {H : Type} : Left H := { results := [], args := [] }

/-- 'stopwatchlaw33.StagesSound': WHATEVER THE INPUT: true; the input reads as it did. -/
def stagesSoundSpec : ChangeSpec := { name := "stagesSound", fn := fun _ => fun
  | [d1, d2, d3] => { results := [.lit (.bool true)], args := [d1, d2, d3] }
  | _ => none }
def stagesSoundRow : OpenClaim := { program := "ytapjficbenpaeaagreat", sum := "776a28c1fe7da301a8d5d4a7294660f8fac44b73322d83d859a186692ab2f945", func := "stopwatch/stopwatchlaw33.StagesSound", spec := "stagesSound", unfollowed := true, recurses := true, apart := false }
def StagesSoundSaid : Prop := stagesSoundRow.holds Tryz.pinned (OpenSpec.ofChange stagesSoundSpec)

/-- ITS FALSE NEIGHBOUR: 'it returns false'. Refute it at one input. -/
def stagesSoundWrong : ChangeSpec := { name := "stagesSound", fn := fun _ => fun
  | [d1, d2, d3] => { results := [.lit (.bool false)], args := [d1, d2, d3] }
  | _ => none }
def StagesSoundWrongFalsely : Prop := stagesSoundRow.holds Tryz.pinned (OpenSpec.ofChange stagesSoundWrong)

/-- 'stopwatchlaw33.StagesTotals': WHATEVER THE INPUT: true; the input reads as it did. -/
def stagesTotalsSpec : ChangeSpec := { name := "stagesTotals", fn := fun _ => fun
  | [d1, d2] => { results := [.lit (.bool true)], args := [d1, d2] }
  | _ => none }
def stagesTotalsRow : OpenClaim := { program := "ytapjficbenpaeaagreat", sum := "776a28c1fe7da301a8d5d4a7294660f8fac44b73322d83d859a186692ab2f945", func := "stopwatch/stopwatchlaw33.StagesTotals", spec := "stagesTotals", unfollowed := true, recurses := true, apart := false }
def StagesTotalsSaid : Prop := stagesTotalsRow.holds Tryz.pinned (OpenSpec.ofChange stagesTotalsSpec)

/-- ITS FALSE NEIGHBOUR: 'it returns false'. Refute it at one input. -/
def stagesTotalsWrong : ChangeSpec := { name := "stagesTotals", fn := fun _ => fun
  | [d1, d2] => { results := [.lit (.bool false)], args := [d1, d2] }
  | _ => none }
def StagesTotalsWrongFalsely : Prop := stagesTotalsRow.holds Tryz.pinned (OpenSpec.ofChange stagesTotalsWrong)

/-- 'stopwatchlaw33.StagesRanks': WHATEVER THE INPUT: true; the input reads as it did. -/
def stagesRanksSpec : ChangeSpec := { name := "stagesRanks", fn := fun _ => fun
  | [d1, d2, d3, d4] => { results := [.lit (.bool true)], args := [d1, d2, d3, d4] }
  | _ => none }
def stagesRanksRow : OpenClaim := { program := "ytapjficbenpaeaagreat", sum := "776a28c1fe7da301a8d5d4a7294660f8fac44b73322d83d859a186692ab2f945", func := "stopwatch/stopwatchlaw33.StagesRanks", spec := "stagesRanks", unfollowed := true, recurses := true, apart := false }
def StagesRanksSaid : Prop := stagesRanksRow.holds Tryz.pinned (OpenSpec.ofChange stagesRanksSpec)

/-- ITS FALSE NEIGHBOUR: 'it returns false'. Refute it at one input. -/
def stagesRanksWrong : ChangeSpec := { name := "stagesRanks", fn := fun _ => fun
  | [d1, d2, d3, d4] => { results := [.lit (.bool false)], args := [d1, d2, d3, d4] }
  | _ => none }
def StagesRanksWrongFalsely : Prop := stagesRanksRow.holds Tryz.pinned (OpenSpec.ofChange stagesRanksWrong)

/-- 'stopwatchlaw33.StagesLead': WHATEVER THE INPUT: true; the input reads as it did. -/
def stagesLeadSpec : ChangeSpec := { name := "stagesLead", fn := fun _ => fun
  | [d1, d2, d3, d4] => { results := [.lit (.bool true)], args := [d1, d2, d3, d4] }
  | _ => none }
def stagesLeadRow : OpenClaim := { program := "ytapjficbenpaeaagreat", sum := "776a28c1fe7da301a8d5d4a7294660f8fac44b73322d83d859a186692ab2f945", func := "stopwatch/stopwatchlaw33.StagesLead", spec := "stagesLead", unfollowed := true, recurses := true, apart := false }
def StagesLeadSaid : Prop := stagesLeadRow.holds Tryz.pinned (OpenSpec.ofChange stagesLeadSpec)

/-- ITS FALSE NEIGHBOUR: 'it returns false'. Refute it at one input. -/
def stagesLeadWrong : ChangeSpec := { name := "stagesLead", fn := fun _ => fun
  | [d1, d2, d3, d4] => { results := [.lit (.bool false)], args := [d1, d2, d3, d4] }
  | _ => none }
def StagesLeadWrongFalsely : Prop := stagesLeadRow.holds Tryz.pinned (OpenSpec.ofChange stagesLeadWrong)

/-- 'stopwatchlaw33.StagesPlaces': WHATEVER THE INPUT: true; the input reads as it did. -/
def stagesPlacesSpec : ChangeSpec := { name := "stagesPlaces", fn := fun _ => fun
  | [d1, d2] => { results := [.lit (.bool true)], args := [d1, d2] }
  | _ => none }
def stagesPlacesRow : OpenClaim := { program := "ytapjficbenpaeaagreat", sum := "776a28c1fe7da301a8d5d4a7294660f8fac44b73322d83d859a186692ab2f945", func := "stopwatch/stopwatchlaw33.StagesPlaces", spec := "stagesPlaces", unfollowed := true, recurses := true, apart := false }
def StagesPlacesSaid : Prop := stagesPlacesRow.holds Tryz.pinned (OpenSpec.ofChange stagesPlacesSpec)

/-- ITS FALSE NEIGHBOUR: 'it returns false'. Refute it at one input. -/
def stagesPlacesWrong : ChangeSpec := { name := "stagesPlaces", fn := fun _ => fun
  | [d1, d2] => { results := [.lit (.bool false)], args := [d1, d2] }
  | _ => none }
def StagesPlacesWrongFalsely : Prop := stagesPlacesRow.holds Tryz.pinned (OpenSpec.ofChange stagesPlacesWrong)

/-- 'stopwatchlaw33.StagesOrder': WHATEVER THE INPUT: true; the input reads as it did. -/
def stagesOrderSpec : ChangeSpec := { name := "stagesOrder", fn := fun _ => fun
  | [d1, d2, d3, d4] => { results := [.lit (.bool true)], args := [d1, d2, d3, d4] }
  | _ => none }
def stagesOrderRow : OpenClaim := { program := "ytapjficbenpaeaagreat", sum := "776a28c1fe7da301a8d5d4a7294660f8fac44b73322d83d859a186692ab2f945", func := "stopwatch/stopwatchlaw33.StagesOrder", spec := "stagesOrder", unfollowed := true, recurses := true, apart := false }
def StagesOrderSaid : Prop := stagesOrderRow.holds Tryz.pinned (OpenSpec.ofChange stagesOrderSpec)

/-- ITS FALSE NEIGHBOUR: 'it returns false'. Refute it at one input. -/
def stagesOrderWrong : ChangeSpec := { name := "stagesOrder", fn := fun _ => fun
  | [d1, d2, d3, d4] => { results := [.lit (.bool false)], args := [d1, d2, d3, d4] }
  | _ => none }
def StagesOrderWrongFalsely : Prop := stagesOrderRow.holds Tryz.pinned (OpenSpec.ofChange stagesOrderWrong)

/-- 'stopwatchlaw33.StagesHandicap': WHATEVER THE INPUT: true; the input reads as it did. -/
def stagesHandicapSpec : ChangeSpec := { name := "stagesHandicap", fn := fun _ => fun
  | [d1, d2, d3] => { results := [.lit (.bool true)], args := [d1, d2, d3] }
  | _ => none }
def stagesHandicapRow : OpenClaim := { program := "ytapjficbenpaeaagreat", sum := "776a28c1fe7da301a8d5d4a7294660f8fac44b73322d83d859a186692ab2f945", func := "stopwatch/stopwatchlaw33.StagesHandicap", spec := "stagesHandicap", unfollowed := true, recurses := true, apart := false }
def StagesHandicapSaid : Prop := stagesHandicapRow.holds Tryz.pinned (OpenSpec.ofChange stagesHandicapSpec)

/-- ITS FALSE NEIGHBOUR: 'it returns false'. Refute it at one input. -/
def stagesHandicapWrong : ChangeSpec := { name := "stagesHandicap", fn := fun _ => fun
  | [d1, d2, d3] => { results := [.lit (.bool false)], args := [d1, d2, d3] }
  | _ => none }
def StagesHandicapWrongFalsely : Prop := stagesHandicapRow.holds Tryz.pinned (OpenSpec.ofChange stagesHandicapWrong)

/- THE SECOND FORM. 'bulk': how many values and letters a reading holds, each counted each time it is reached (what is shared counts as often as it is met; a slice's spare places count too). A statement '..UptoSaid' is the law's where the arguments, and the package variables that the reading takes, are together of bulk at most 1048576: NARROWER than '..Said'. Prove '..Said' where nothing that the law and all that it calls make is longer than what came in: it says more and counts as full. Else prove '..UptoSaid'. A law counts once. -/
mutual
def uptoBulk {H : Type} : DataW H → Nat
  | .lit (.string bytes) => bytes.length + 1
  | .lit _ => 1
  | .nil => 1
  | .ptr d => uptoBulk d + 1
  | .slice elems spare => uptoBulkAll elems + uptoBulkAll spare + 1
  | .agg parts => uptoBulkAll parts + 1
  | .iface _ d => uptoBulk d + 1
  | .map entries => uptoBulkEntries entries + 1
  | .held _ => 1
def uptoBulkAll {H : Type} : List (DataW H) → Nat
  | [] => 0
  | d :: r => uptoBulk d + uptoBulkAll r
def uptoBulkEntries {H : Type} : List (Lit × DataW H) → Nat
  | [] => 0
  | x :: r => uptoBulkEntry x + uptoBulkEntries r
def uptoBulkEntry {H : Type} : Lit × DataW H → Nat
  | (.string bytes, d) => bytes.length + uptoBulk d + 1
  | (_, d) => uptoBulk d + 1
 end
def uptoSmall : (H : Type) → List (DataW H) → Bool := fun _ ds => decide (uptoBulkAll ds ≤ 1048576)
def OpenSpec.upto (s : _root_.Go.ChangeSpec) : _root_.Go.OpenSpec := { _root_.Go.OpenSpec.ofChange s with cond := some uptoSmall }

/-- 'stopwatchlaw33.StagesSound', WHERE WHAT IT READS IS OF BULK AT MOST 1048576: true; the input reads as it did. -/
def stagesSoundUptoRow : OpenClaim := { program := "ytapjficbenpaeaagreat", sum := "776a28c1fe7da301a8d5d4a7294660f8fac44b73322d83d859a186692ab2f945", func := "stopwatch/stopwatchlaw33.StagesSound", spec := "stagesSound", unfollowed := true, recurses := true, apart := false, narrowed := true }
def StagesSoundUptoSaid : Prop := stagesSoundUptoRow.holds Tryz.pinned (OpenSpec.upto stagesSoundSpec)

/-- 'stopwatchlaw33.StagesTotals', WHERE WHAT IT READS IS OF BULK AT MOST 1048576: true; the input reads as it did. -/
def stagesTotalsUptoRow : OpenClaim := { program := "ytapjficbenpaeaagreat", sum := "776a28c1fe7da301a8d5d4a7294660f8fac44b73322d83d859a186692ab2f945", func := "stopwatch/stopwatchlaw33.StagesTotals", spec := "stagesTotals", unfollowed := true, recurses := true, apart := false, narrowed := true }
def StagesTotalsUptoSaid : Prop := stagesTotalsUptoRow.holds Tryz.pinned (OpenSpec.upto stagesTotalsSpec)

/-- 'stopwatchlaw33.StagesRanks', WHERE WHAT IT READS IS OF BULK AT MOST 1048576: true; the input reads as it did. -/
def stagesRanksUptoRow : OpenClaim := { program := "ytapjficbenpaeaagreat", sum := "776a28c1fe7da301a8d5d4a7294660f8fac44b73322d83d859a186692ab2f945", func := "stopwatch/stopwatchlaw33.StagesRanks", spec := "stagesRanks", unfollowed := true, recurses := true, apart := false, narrowed := true }
def StagesRanksUptoSaid : Prop := stagesRanksUptoRow.holds Tryz.pinned (OpenSpec.upto stagesRanksSpec)

/-- 'stopwatchlaw33.StagesLead', WHERE WHAT IT READS IS OF BULK AT MOST 1048576: true; the input reads as it did. -/
def stagesLeadUptoRow : OpenClaim := { program := "ytapjficbenpaeaagreat", sum := "776a28c1fe7da301a8d5d4a7294660f8fac44b73322d83d859a186692ab2f945", func := "stopwatch/stopwatchlaw33.StagesLead", spec := "stagesLead", unfollowed := true, recurses := true, apart := false, narrowed := true }
def StagesLeadUptoSaid : Prop := stagesLeadUptoRow.holds Tryz.pinned (OpenSpec.upto stagesLeadSpec)

/-- 'stopwatchlaw33.StagesPlaces', WHERE WHAT IT READS IS OF BULK AT MOST 1048576: true; the input reads as it did. -/
def stagesPlacesUptoRow : OpenClaim := { program := "ytapjficbenpaeaagreat", sum := "776a28c1fe7da301a8d5d4a7294660f8fac44b73322d83d859a186692ab2f945", func := "stopwatch/stopwatchlaw33.StagesPlaces", spec := "stagesPlaces", unfollowed := true, recurses := true, apart := false, narrowed := true }
def StagesPlacesUptoSaid : Prop := stagesPlacesUptoRow.holds Tryz.pinned (OpenSpec.upto stagesPlacesSpec)

/-- 'stopwatchlaw33.StagesOrder', WHERE WHAT IT READS IS OF BULK AT MOST 1048576: true; the input reads as it did. -/
def stagesOrderUptoRow : OpenClaim := { program := "ytapjficbenpaeaagreat", sum := "776a28c1fe7da301a8d5d4a7294660f8fac44b73322d83d859a186692ab2f945", func := "stopwatch/stopwatchlaw33.StagesOrder", spec := "stagesOrder", unfollowed := true, recurses := true, apart := false, narrowed := true }
def StagesOrderUptoSaid : Prop := stagesOrderUptoRow.holds Tryz.pinned (OpenSpec.upto stagesOrderSpec)

/-- 'stopwatchlaw33.StagesHandicap', WHERE WHAT IT READS IS OF BULK AT MOST 1048576: true; the input reads as it did. -/
def stagesHandicapUptoRow : OpenClaim := { program := "ytapjficbenpaeaagreat", sum := "776a28c1fe7da301a8d5d4a7294660f8fac44b73322d83d859a186692ab2f945", func := "stopwatch/stopwatchlaw33.StagesHandicap", spec := "stagesHandicap", unfollowed := true, recurses := true, apart := false, narrowed := true }
def StagesHandicapUptoSaid : Prop := stagesHandicapUptoRow.holds Tryz.pinned (OpenSpec.upto stagesHandicapSpec)

end Rows
end Go.Proofs.YtapjficbenpaeaaGreat

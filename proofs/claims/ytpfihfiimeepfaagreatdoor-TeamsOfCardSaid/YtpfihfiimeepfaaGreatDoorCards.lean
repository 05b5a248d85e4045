/-
  DERIVED. GIVEN WITH THE SEED: THE CARDS: each row of YtpfihfiimeepfaaGreatDoorRows.lean that lists a variable, with what it lists TIED to the program's text (the seventh form; the later family's looks); each row that meets fmt, with fmt's text TOLD by the authors' own Lean function (tested against real Go, not proved from fmt's source: count such statements apart). THE CARD IS WHAT COUNTS. Prove the row's statement (the work); the ties are given (YtpfihfiimeepfaaGreatDoorTie.lean); close each card by the builder's one call (the guide's Derived/Test/ToyasCard.lean, 'card_holds'). Laid BY PROGRAM, IN A SANDBOX (cutbox-door.mjs). By AI agents, Wed Nov 11 2026. No macro, syntax, notation, axiom, sorry.
-/
import Derived.Test.YtpfihfiimeepfaaGreatDoorRows
import GoSem.ClaimSeven
namespace Go.Proofs.YtpfihfiimeepfaaGreatDoor
namespace Rows

/-- THE TIED CARD OF 'stopwatchlaw34.TeamsSound'. -/
def teamsSoundCard : Claim7 := { stood := { row := teamsSoundRow, standIns := [], harness := (true, "549ce1b8cd20da633540b454f7e0c438fe9dfbd1a614eddc695f62552a631886"), looks := false }, kinds := [], alts := [], laidByText := true, laidKinds := [.data, .data, .data], laidTests := true, laidLooks := .later }
def TeamsSoundCardSaid : Prop := Claim7.holds Tryz.pinned (.plain (OpenSpec.ofChange teamsSoundSpec)) teamsSoundCard

/-- THE TIED CARD OF 'stopwatchlaw34.TeamsTotals'. -/
def teamsTotalsCard : Claim7 := { stood := { row := teamsTotalsRow, standIns := [], harness := (true, "549ce1b8cd20da633540b454f7e0c438fe9dfbd1a614eddc695f62552a631886"), looks := false }, kinds := [], alts := [], laidByText := true, laidKinds := [.data, .data, .data], laidTests := true, laidLooks := .later }
def TeamsTotalsCardSaid : Prop := Claim7.holds Tryz.pinned (.plain (OpenSpec.ofChange teamsTotalsSpec)) teamsTotalsCard

/-- THE TIED CARD OF 'stopwatchlaw34.TeamsRanks'. -/
def teamsRanksCard : Claim7 := { stood := { row := teamsRanksRow, standIns := [], harness := (true, "549ce1b8cd20da633540b454f7e0c438fe9dfbd1a614eddc695f62552a631886"), looks := false }, kinds := [], alts := [], laidByText := true, laidKinds := [.data, .data, .data], laidTests := true, laidLooks := .later }
def TeamsRanksCardSaid : Prop := Claim7.holds Tryz.pinned (.plain (OpenSpec.ofChange teamsRanksSpec)) teamsRanksCard

/-- THE TIED CARD OF 'stopwatchlaw34.TeamsMore'. -/
def teamsMoreCard : Claim7 := { stood := { row := teamsMoreRow, standIns := [], harness := (true, "549ce1b8cd20da633540b454f7e0c438fe9dfbd1a614eddc695f62552a631886"), looks := false }, kinds := [], alts := [], laidByText := true, laidKinds := [.data, .data, .data], laidTests := true, laidLooks := .later }
def TeamsMoreCardSaid : Prop := Claim7.holds Tryz.pinned (.plain (OpenSpec.ofChange teamsMoreSpec)) teamsMoreCard

/-- THE TIED CARD OF 'stopwatchlaw34.TeamsRange'. -/
def teamsRangeCard : Claim7 := { stood := { row := teamsRangeRow, standIns := [], harness := (true, "549ce1b8cd20da633540b454f7e0c438fe9dfbd1a614eddc695f62552a631886"), looks := false }, kinds := [], alts := [], laidByText := true, laidKinds := [.data, .data, .data], laidTests := true, laidLooks := .later }
def TeamsRangeCardSaid : Prop := Claim7.holds Tryz.pinned (.plain (OpenSpec.ofChange teamsRangeSpec)) teamsRangeCard

/-- THE TIED CARD OF 'stopwatchlaw34.TeamsOf'. -/
def teamsOfCard : Claim7 := { stood := { row := teamsOfRow, standIns := [], harness := (true, "549ce1b8cd20da633540b454f7e0c438fe9dfbd1a614eddc695f62552a631886"), looks := false }, kinds := [], alts := [], laidByText := true, laidKinds := [.data, .data, .data], laidTests := true, laidLooks := .later }
def TeamsOfCardSaid : Prop := Claim7.holds Tryz.pinned (.plain (OpenSpec.ofChange teamsOfSpec)) teamsOfCard

/-- THE TIED CARD OF 'stopwatchlaw34.TeamsOrder'. -/
def teamsOrderCard : Claim7 := { stood := { row := teamsOrderRow, standIns := [], harness := (true, "549ce1b8cd20da633540b454f7e0c438fe9dfbd1a614eddc695f62552a631886"), looks := false }, kinds := [], alts := [], laidByText := true, laidKinds := [.data, .data, .data], laidTests := true, laidLooks := .later }
def TeamsOrderCardSaid : Prop := Claim7.holds Tryz.pinned (.plain (OpenSpec.ofChange teamsOrderSpec)) teamsOrderCard

/-- THE SECOND FORM's CARD OF 'stopwatchlaw34.TeamsSound'. -/
def teamsSoundUptoCard : Claim7 := { stood := { row := teamsSoundUptoRow, standIns := [], harness := (true, "549ce1b8cd20da633540b454f7e0c438fe9dfbd1a614eddc695f62552a631886"), looks := false }, kinds := [], alts := [], laidByText := true, laidKinds := [.data, .data, .data], laidTests := true, laidLooks := .later }
def TeamsSoundUptoCardSaid : Prop := Claim7.holds Tryz.pinned (.plain (OpenSpec.upto teamsSoundSpec)) teamsSoundUptoCard

/-- THE SECOND FORM's CARD OF 'stopwatchlaw34.TeamsTotals'. -/
def teamsTotalsUptoCard : Claim7 := { stood := { row := teamsTotalsUptoRow, standIns := [], harness := (true, "549ce1b8cd20da633540b454f7e0c438fe9dfbd1a614eddc695f62552a631886"), looks := false }, kinds := [], alts := [], laidByText := true, laidKinds := [.data, .data, .data], laidTests := true, laidLooks := .later }
def TeamsTotalsUptoCardSaid : Prop := Claim7.holds Tryz.pinned (.plain (OpenSpec.upto teamsTotalsSpec)) teamsTotalsUptoCard

/-- THE SECOND FORM's CARD OF 'stopwatchlaw34.TeamsRanks'. -/
def teamsRanksUptoCard : Claim7 := { stood := { row := teamsRanksUptoRow, standIns := [], harness := (true, "549ce1b8cd20da633540b454f7e0c438fe9dfbd1a614eddc695f62552a631886"), looks := false }, kinds := [], alts := [], laidByText := true, laidKinds := [.data, .data, .data], laidTests := true, laidLooks := .later }
def TeamsRanksUptoCardSaid : Prop := Claim7.holds Tryz.pinned (.plain (OpenSpec.upto teamsRanksSpec)) teamsRanksUptoCard

/-- THE SECOND FORM's CARD OF 'stopwatchlaw34.TeamsMore'. -/
def teamsMoreUptoCard : Claim7 := { stood := { row := teamsMoreUptoRow, standIns := [], harness := (true, "549ce1b8cd20da633540b454f7e0c438fe9dfbd1a614eddc695f62552a631886"), looks := false }, kinds := [], alts := [], laidByText := true, laidKinds := [.data, .data, .data], laidTests := true, laidLooks := .later }
def TeamsMoreUptoCardSaid : Prop := Claim7.holds Tryz.pinned (.plain (OpenSpec.upto teamsMoreSpec)) teamsMoreUptoCard

/-- THE SECOND FORM's CARD OF 'stopwatchlaw34.TeamsRange'. -/
def teamsRangeUptoCard : Claim7 := { stood := { row := teamsRangeUptoRow, standIns := [], harness := (true, "549ce1b8cd20da633540b454f7e0c438fe9dfbd1a614eddc695f62552a631886"), looks := false }, kinds := [], alts := [], laidByText := true, laidKinds := [.data, .data, .data], laidTests := true, laidLooks := .later }
def TeamsRangeUptoCardSaid : Prop := Claim7.holds Tryz.pinned (.plain (OpenSpec.upto teamsRangeSpec)) teamsRangeUptoCard

/-- THE SECOND FORM's CARD OF 'stopwatchlaw34.TeamsOf'. -/
def teamsOfUptoCard : Claim7 := { stood := { row := teamsOfUptoRow, standIns := [], harness := (true, "549ce1b8cd20da633540b454f7e0c438fe9dfbd1a614eddc695f62552a631886"), looks := false }, kinds := [], alts := [], laidByText := true, laidKinds := [.data, .data, .data], laidTests := true, laidLooks := .later }
def TeamsOfUptoCardSaid : Prop := Claim7.holds Tryz.pinned (.plain (OpenSpec.upto teamsOfSpec)) teamsOfUptoCard

/-- THE SECOND FORM's CARD OF 'stopwatchlaw34.TeamsOrder'. -/
def teamsOrderUptoCard : Claim7 := { stood := { row := teamsOrderUptoRow, standIns := [], harness := (true, "549ce1b8cd20da633540b454f7e0c438fe9dfbd1a614eddc695f62552a631886"), looks := false }, kinds := [], alts := [], laidByText := true, laidKinds := [.data, .data, .data], laidTests := true, laidLooks := .later }
def TeamsOrderUptoCardSaid : Prop := Claim7.holds Tryz.pinned (.plain (OpenSpec.upto teamsOrderSpec)) teamsOrderUptoCard
end Rows
end Go.Proofs.YtpfihfiimeepfaaGreatDoor

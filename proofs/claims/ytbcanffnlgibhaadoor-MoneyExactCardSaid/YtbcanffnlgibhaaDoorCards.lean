/-
  DERIVED. GIVEN WITH THE SEED: THE CARDS: each row of YtbcanffnlgibhaaDoorRows.lean that lists a variable, with what it lists TIED to the program's text (the seventh form; the later family's looks); each row that meets fmt, with fmt's text TOLD by the authors' own Lean function (tested against real Go, not proved from fmt's source: count such statements apart). THE CARD IS WHAT COUNTS. Prove the row's statement (the work); the ties are given (YtbcanffnlgibhaaDoorTie.lean); close each card by the builder's one call (the guide's Derived/Test/ToyasCard.lean, 'card_holds'). Laid BY PROGRAM, IN A SANDBOX (cutbox-door.mjs). By AI agents, Wed Nov 11 2026. No macro, syntax, notation, axiom, sorry.
-/
import Derived.Test.YtbcanffnlgibhaaDoorRows
import GoSem.ClaimSeven
namespace Go.Proofs.YtbcanffnlgibhaaDoor
namespace Rows

/-- THE TIED CARD OF 'stopwatchlaw30.MoneySplitSpec'. -/
def moneySplitSpecCard : Claim7 := { stood := { row := moneySplitSpecRow, standIns := [], harness := (true, "a3bd947328d19cfc804a3011324e3dd2998fb7320b6ae22a61062cd90976d097"), looks := false }, kinds := [], alts := [], laidByText := true, laidKinds := [.data, .data, .data], laidTests := true, laidLooks := .later }
def MoneySplitSpecCardSaid : Prop := Claim7.holds Tryd.pinned (.plain (OpenSpec.ofChange moneySplitSpecSpec)) moneySplitSpecCard

/-- THE TIED CARD OF 'stopwatchlaw30.MoneyScales'. -/
def moneyScalesCard : Claim7 := { stood := { row := moneyScalesRow, standIns := [], harness := (true, "a3bd947328d19cfc804a3011324e3dd2998fb7320b6ae22a61062cd90976d097"), looks := false }, kinds := [], alts := [], laidByText := true, laidKinds := [.data, .data, .data], laidTests := true, laidLooks := .later }
def MoneyScalesCardSaid : Prop := Claim7.holds Tryd.pinned (.plain (OpenSpec.ofChange moneyScalesSpec)) moneyScalesCard

/-- THE TIED CARD OF 'stopwatchlaw30.MoneyWritten'. -/
def moneyWrittenCard : Claim7 := { stood := { row := moneyWrittenRow, standIns := [], harness := (true, "a3bd947328d19cfc804a3011324e3dd2998fb7320b6ae22a61062cd90976d097"), looks := false }, kinds := [], alts := [], laidByText := true, laidKinds := [.data, .data, .data], laidTests := true, laidLooks := .later }
def MoneyWrittenCardSaid : Prop := Claim7.holds Tryd.pinned (.plain (OpenSpec.ofChange moneyWrittenSpec)) moneyWrittenCard

/-- THE TIED CARD OF 'stopwatchlaw30.MoneyNothing'. -/
def moneyNothingCard : Claim7 := { stood := { row := moneyNothingRow, standIns := [], harness := (true, "a3bd947328d19cfc804a3011324e3dd2998fb7320b6ae22a61062cd90976d097"), looks := false }, kinds := [], alts := [], laidByText := true, laidKinds := [.data, .data, .data], laidTests := true, laidLooks := .later }
def MoneyNothingCardSaid : Prop := Claim7.holds Tryd.pinned (.plain (OpenSpec.ofChange moneyNothingSpec)) moneyNothingCard

/-- THE TIED CARD OF 'stopwatchlaw30.MoneySumSpec'. -/
def moneySumSpecCard : Claim7 := { stood := { row := moneySumSpecRow, standIns := [], harness := (true, "a3bd947328d19cfc804a3011324e3dd2998fb7320b6ae22a61062cd90976d097"), looks := false }, kinds := [], alts := [], laidByText := true, laidKinds := [.data, .data, .data], laidTests := true, laidLooks := .later }
def MoneySumSpecCardSaid : Prop := Claim7.holds Tryd.pinned (.plain (OpenSpec.ofChange moneySumSpecSpec)) moneySumSpecCard

/-- THE TIED CARD OF 'stopwatchlaw30.MoneyExact'. -/
def moneyExactCard : Claim7 := { stood := { row := moneyExactRow, standIns := [], harness := (true, "a3bd947328d19cfc804a3011324e3dd2998fb7320b6ae22a61062cd90976d097"), looks := false }, kinds := [], alts := [], laidByText := true, laidKinds := [.data, .data, .data], laidTests := true, laidLooks := .later }
def MoneyExactCardSaid : Prop := Claim7.holds Tryd.pinned (.plain (OpenSpec.ofChange moneyExactSpec)) moneyExactCard

/-- THE TIED CARD OF 'stopwatchlaw30.MoneyAdds'. -/
def moneyAddsCard : Claim7 := { stood := { row := moneyAddsRow, standIns := [], harness := (true, "a3bd947328d19cfc804a3011324e3dd2998fb7320b6ae22a61062cd90976d097"), looks := false }, kinds := [], alts := [], laidByText := true, laidKinds := [.data, .data, .data], laidTests := true, laidLooks := .later }
def MoneyAddsCardSaid : Prop := Claim7.holds Tryd.pinned (.plain (OpenSpec.ofChange moneyAddsSpec)) moneyAddsCard

/-- THE SECOND FORM's CARD OF 'stopwatchlaw30.MoneySplitSpec'. -/
def moneySplitSpecUptoCard : Claim7 := { stood := { row := moneySplitSpecUptoRow, standIns := [], harness := (true, "a3bd947328d19cfc804a3011324e3dd2998fb7320b6ae22a61062cd90976d097"), looks := false }, kinds := [], alts := [], laidByText := true, laidKinds := [.data, .data, .data], laidTests := true, laidLooks := .later }
def MoneySplitSpecUptoCardSaid : Prop := Claim7.holds Tryd.pinned (.plain (OpenSpec.upto moneySplitSpecSpec)) moneySplitSpecUptoCard

/-- THE SECOND FORM's CARD OF 'stopwatchlaw30.MoneyScales'. -/
def moneyScalesUptoCard : Claim7 := { stood := { row := moneyScalesUptoRow, standIns := [], harness := (true, "a3bd947328d19cfc804a3011324e3dd2998fb7320b6ae22a61062cd90976d097"), looks := false }, kinds := [], alts := [], laidByText := true, laidKinds := [.data, .data, .data], laidTests := true, laidLooks := .later }
def MoneyScalesUptoCardSaid : Prop := Claim7.holds Tryd.pinned (.plain (OpenSpec.upto moneyScalesSpec)) moneyScalesUptoCard

/-- THE SECOND FORM's CARD OF 'stopwatchlaw30.MoneyWritten'. -/
def moneyWrittenUptoCard : Claim7 := { stood := { row := moneyWrittenUptoRow, standIns := [], harness := (true, "a3bd947328d19cfc804a3011324e3dd2998fb7320b6ae22a61062cd90976d097"), looks := false }, kinds := [], alts := [], laidByText := true, laidKinds := [.data, .data, .data], laidTests := true, laidLooks := .later }
def MoneyWrittenUptoCardSaid : Prop := Claim7.holds Tryd.pinned (.plain (OpenSpec.upto moneyWrittenSpec)) moneyWrittenUptoCard

/-- THE SECOND FORM's CARD OF 'stopwatchlaw30.MoneyNothing'. -/
def moneyNothingUptoCard : Claim7 := { stood := { row := moneyNothingUptoRow, standIns := [], harness := (true, "a3bd947328d19cfc804a3011324e3dd2998fb7320b6ae22a61062cd90976d097"), looks := false }, kinds := [], alts := [], laidByText := true, laidKinds := [.data, .data, .data], laidTests := true, laidLooks := .later }
def MoneyNothingUptoCardSaid : Prop := Claim7.holds Tryd.pinned (.plain (OpenSpec.upto moneyNothingSpec)) moneyNothingUptoCard

/-- THE SECOND FORM's CARD OF 'stopwatchlaw30.MoneySumSpec'. -/
def moneySumSpecUptoCard : Claim7 := { stood := { row := moneySumSpecUptoRow, standIns := [], harness := (true, "a3bd947328d19cfc804a3011324e3dd2998fb7320b6ae22a61062cd90976d097"), looks := false }, kinds := [], alts := [], laidByText := true, laidKinds := [.data, .data, .data], laidTests := true, laidLooks := .later }
def MoneySumSpecUptoCardSaid : Prop := Claim7.holds Tryd.pinned (.plain (OpenSpec.upto moneySumSpecSpec)) moneySumSpecUptoCard

/-- THE SECOND FORM's CARD OF 'stopwatchlaw30.MoneyExact'. -/
def moneyExactUptoCard : Claim7 := { stood := { row := moneyExactUptoRow, standIns := [], harness := (true, "a3bd947328d19cfc804a3011324e3dd2998fb7320b6ae22a61062cd90976d097"), looks := false }, kinds := [], alts := [], laidByText := true, laidKinds := [.data, .data, .data], laidTests := true, laidLooks := .later }
def MoneyExactUptoCardSaid : Prop := Claim7.holds Tryd.pinned (.plain (OpenSpec.upto moneyExactSpec)) moneyExactUptoCard

/-- THE SECOND FORM's CARD OF 'stopwatchlaw30.MoneyAdds'. -/
def moneyAddsUptoCard : Claim7 := { stood := { row := moneyAddsUptoRow, standIns := [], harness := (true, "a3bd947328d19cfc804a3011324e3dd2998fb7320b6ae22a61062cd90976d097"), looks := false }, kinds := [], alts := [], laidByText := true, laidKinds := [.data, .data, .data], laidTests := true, laidLooks := .later }
def MoneyAddsUptoCardSaid : Prop := Claim7.holds Tryd.pinned (.plain (OpenSpec.upto moneyAddsSpec)) moneyAddsUptoCard
end Rows
end Go.Proofs.YtbcanffnlgibhaaDoor

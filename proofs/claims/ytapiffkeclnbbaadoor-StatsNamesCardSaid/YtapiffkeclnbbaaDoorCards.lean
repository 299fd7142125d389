/-
  DERIVED. GIVEN WITH THE SEED: THE CARDS: each row of YtapiffkeclnbbaaDoorRows.lean that lists a variable, with what it lists TIED to the program's text (the seventh form; the later family's looks); each row that meets fmt, with fmt's text TOLD by the authors' own Lean function (tested against real Go, not proved from fmt's source: count such statements apart). THE CARD IS WHAT COUNTS. Prove the row's statement (the work); the ties are given (YtapiffkeclnbbaaDoorTie.lean); close each card by the builder's one call (the guide's Derived/Test/ToyasCard.lean, 'card_holds'). Laid BY PROGRAM, IN A SANDBOX (cutbox-door.mjs). By AI agents, Wed Nov 11 2026. No macro, syntax, notation, axiom, sorry.
-/
import Derived.Test.YtapiffkeclnbbaaDoorRows
import GoSem.ClaimSeven
namespace Go.Proofs.YtapiffkeclnbbaaDoor
namespace Rows

/-- THE TIED CARD OF 'kedgelaw15.StatsNever'. -/
def statsNeverCard : Claim7 := { stood := { row := statsNeverRow, standIns := [], harness := (true, "23f532d1091fd4203bffac2932101a0ef95dbee23f9871612952482d13fa0f37"), looks := false }, kinds := [], alts := [], laidByText := true, laidKinds := [.listed, .data], laidTests := true, laidLooks := .later }
def StatsNeverCardSaid : Prop := Claim7.holds Tryd.pinned (.plain (OpenSpec.ofChange statsNeverSpec)) statsNeverCard

/-- THE TIED CARD OF 'kedgelaw15.StatsOrder'. -/
def statsOrderCard : Claim7 := { stood := { row := statsOrderRow, standIns := [], harness := (true, "23f532d1091fd4203bffac2932101a0ef95dbee23f9871612952482d13fa0f37"), looks := false }, kinds := [], alts := [], laidByText := true, laidKinds := [.listed, .data], laidTests := true, laidLooks := .later }
def StatsOrderCardSaid : Prop := Claim7.holds Tryd.pinned (.plain (OpenSpec.ofChange statsOrderSpec)) statsOrderCard

/-- THE TIED CARD OF 'kedgelaw15.StatsRead'. -/
def statsReadCard : Claim7 := { stood := { row := statsReadRow, standIns := [], harness := (true, "23f532d1091fd4203bffac2932101a0ef95dbee23f9871612952482d13fa0f37"), looks := false }, kinds := [], alts := [], laidByText := true, laidKinds := [.listed, .data], laidTests := true, laidLooks := .later }
def StatsReadCardSaid : Prop := Claim7.holds Tryd.pinned (.plain (OpenSpec.ofChange statsReadSpec)) statsReadCard

/-- THE TIED CARD OF 'kedgelaw15.StatsAre'. -/
def statsAreCard : Claim7 := { stood := { row := statsAreRow, standIns := [], harness := (true, "23f532d1091fd4203bffac2932101a0ef95dbee23f9871612952482d13fa0f37"), looks := false }, kinds := [], alts := [], laidByText := true, laidKinds := [.listed, .data], laidTests := true, laidLooks := .later }
def StatsAreCardSaid : Prop := Claim7.holds Tryd.pinned (.plain (OpenSpec.ofChange statsAreSpec)) statsAreCard

/-- THE TIED CARD OF 'kedgelaw15.StatsNames'. -/
def statsNamesCard : Claim7 := { stood := { row := statsNamesRow, standIns := [], harness := (true, "23f532d1091fd4203bffac2932101a0ef95dbee23f9871612952482d13fa0f37"), looks := false }, kinds := [], alts := [], laidByText := true, laidKinds := [.listed, .data], laidTests := true, laidLooks := .later }
def StatsNamesCardSaid : Prop := Claim7.holds Tryd.pinned (.plain (OpenSpec.ofChange statsNamesSpec)) statsNamesCard

/-- THE SECOND FORM's CARD OF 'kedgelaw15.StatsNever'. -/
def statsNeverUptoCard : Claim7 := { stood := { row := statsNeverUptoRow, standIns := [], harness := (true, "23f532d1091fd4203bffac2932101a0ef95dbee23f9871612952482d13fa0f37"), looks := false }, kinds := [], alts := [], laidByText := true, laidKinds := [.listed, .data], laidTests := true, laidLooks := .later }
def StatsNeverUptoCardSaid : Prop := Claim7.holds Tryd.pinned (.plain (OpenSpec.upto statsNeverSpec)) statsNeverUptoCard

/-- THE SECOND FORM's CARD OF 'kedgelaw15.StatsOrder'. -/
def statsOrderUptoCard : Claim7 := { stood := { row := statsOrderUptoRow, standIns := [], harness := (true, "23f532d1091fd4203bffac2932101a0ef95dbee23f9871612952482d13fa0f37"), looks := false }, kinds := [], alts := [], laidByText := true, laidKinds := [.listed, .data], laidTests := true, laidLooks := .later }
def StatsOrderUptoCardSaid : Prop := Claim7.holds Tryd.pinned (.plain (OpenSpec.upto statsOrderSpec)) statsOrderUptoCard

/-- THE SECOND FORM's CARD OF 'kedgelaw15.StatsRead'. -/
def statsReadUptoCard : Claim7 := { stood := { row := statsReadUptoRow, standIns := [], harness := (true, "23f532d1091fd4203bffac2932101a0ef95dbee23f9871612952482d13fa0f37"), looks := false }, kinds := [], alts := [], laidByText := true, laidKinds := [.listed, .data], laidTests := true, laidLooks := .later }
def StatsReadUptoCardSaid : Prop := Claim7.holds Tryd.pinned (.plain (OpenSpec.upto statsReadSpec)) statsReadUptoCard

/-- THE SECOND FORM's CARD OF 'kedgelaw15.StatsAre'. -/
def statsAreUptoCard : Claim7 := { stood := { row := statsAreUptoRow, standIns := [], harness := (true, "23f532d1091fd4203bffac2932101a0ef95dbee23f9871612952482d13fa0f37"), looks := false }, kinds := [], alts := [], laidByText := true, laidKinds := [.listed, .data], laidTests := true, laidLooks := .later }
def StatsAreUptoCardSaid : Prop := Claim7.holds Tryd.pinned (.plain (OpenSpec.upto statsAreSpec)) statsAreUptoCard

/-- THE SECOND FORM's CARD OF 'kedgelaw15.StatsNames'. -/
def statsNamesUptoCard : Claim7 := { stood := { row := statsNamesUptoRow, standIns := [], harness := (true, "23f532d1091fd4203bffac2932101a0ef95dbee23f9871612952482d13fa0f37"), looks := false }, kinds := [], alts := [], laidByText := true, laidKinds := [.listed, .data], laidTests := true, laidLooks := .later }
def StatsNamesUptoCardSaid : Prop := Claim7.holds Tryd.pinned (.plain (OpenSpec.upto statsNamesSpec)) statsNamesUptoCard
end Rows
end Go.Proofs.YtapiffkeclnbbaaDoor

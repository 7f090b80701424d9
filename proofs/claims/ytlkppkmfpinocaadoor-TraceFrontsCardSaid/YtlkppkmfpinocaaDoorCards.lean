/-
  DERIVED. GIVEN WITH THE SEED: THE CARDS: each row of YtlkppkmfpinocaaDoorRows.lean that lists a variable, with what it lists TIED to the program's text (the seventh form; the later family's looks); each row that meets fmt, with fmt's text TOLD by the authors' own Lean function (tested against real Go, not proved from fmt's source: count such statements apart). THE CARD IS WHAT COUNTS. Prove the row's statement (the work); the ties are given (YtlkppkmfpinocaaDoorTie.lean); close each card by the builder's one call (the guide's Derived/Test/ToyasCard.lean, 'card_holds'). Laid BY PROGRAM, IN A SANDBOX (cutbox-door.mjs). By AI agents, Wed Nov 11 2026. No macro, syntax, notation, axiom, sorry.
-/
import Derived.Test.YtlkppkmfpinocaaDoorRows
import GoSem.ClaimSeven
namespace Go.Proofs.YtlkppkmfpinocaaDoor
namespace Rows

/-- THE TIED CARD OF 'droguelaw20.TraceLines'. -/
def traceLinesCard : Claim7 := { stood := { row := traceLinesRow, standIns := [], harness := (true, "eaa7206d99c656d7e962339a401ca1be85e411b613dbf42c182099a8dcd98fdd"), looks := true }, kinds := [], alts := [], laidByText := true, laidKinds := [.data, .data, .data, .sentinel, .sentinel], laidTests := true, laidLooks := .later }
def TraceLinesCardSaid : Prop := Claim7.holds Tryd.pinned (.plain (OpenSpec.ofChange traceLinesSpec)) traceLinesCard

/-- THE TIED CARD OF 'droguelaw20.TraceRows'. -/
def traceRowsCard : Claim7 := { stood := { row := traceRowsRow, standIns := [], harness := (true, "eaa7206d99c656d7e962339a401ca1be85e411b613dbf42c182099a8dcd98fdd"), looks := true }, kinds := [], alts := [], laidByText := true, laidKinds := [.data, .data, .data, .sentinel, .sentinel], laidTests := true, laidLooks := .later }
def TraceRowsCardSaid : Prop := Claim7.holds Tryd.pinned (.plain (OpenSpec.ofChange traceRowsSpec)) traceRowsCard

/-- THE TIED CARD OF 'droguelaw20.TraceFronts'. -/
def traceFrontsCard : Claim7 := { stood := { row := traceFrontsRow, standIns := [], harness := (true, "eaa7206d99c656d7e962339a401ca1be85e411b613dbf42c182099a8dcd98fdd"), looks := true }, kinds := [], alts := [], laidByText := true, laidKinds := [.data, .data, .data, .sentinel, .sentinel], laidTests := true, laidLooks := .later }
def TraceFrontsCardSaid : Prop := Claim7.holds Tryd.pinned (.plain (OpenSpec.ofChange traceFrontsSpec)) traceFrontsCard

/-- THE TIED CARD OF 'droguelaw20.TraceAlike'. -/
def traceAlikeCard : Claim7 := { stood := { row := traceAlikeRow, standIns := [], harness := (true, "eaa7206d99c656d7e962339a401ca1be85e411b613dbf42c182099a8dcd98fdd"), looks := true }, kinds := [], alts := [], laidByText := true, laidKinds := [.data, .data, .data, .sentinel, .sentinel], laidTests := true, laidLooks := .later }
def TraceAlikeCardSaid : Prop := Claim7.holds Tryd.pinned (.plain (OpenSpec.ofChange traceAlikeSpec)) traceAlikeCard

/-- THE TIED CARD OF 'droguelaw20.TraceJoins'. -/
def traceJoinsCard : Claim7 := { stood := { row := traceJoinsRow, standIns := [], harness := (true, "eaa7206d99c656d7e962339a401ca1be85e411b613dbf42c182099a8dcd98fdd"), looks := true }, kinds := [], alts := [], laidByText := true, laidKinds := [.data, .data, .data, .sentinel, .sentinel], laidTests := true, laidLooks := .later }
def TraceJoinsCardSaid : Prop := Claim7.holds Tryd.pinned (.plain (OpenSpec.ofChange traceJoinsSpec)) traceJoinsCard

/-- THE SECOND FORM's CARD OF 'droguelaw20.TraceLines'. -/
def traceLinesUptoCard : Claim7 := { stood := { row := traceLinesUptoRow, standIns := [], harness := (true, "eaa7206d99c656d7e962339a401ca1be85e411b613dbf42c182099a8dcd98fdd"), looks := true }, kinds := [], alts := [], laidByText := true, laidKinds := [.data, .data, .data, .sentinel, .sentinel], laidTests := true, laidLooks := .later }
def TraceLinesUptoCardSaid : Prop := Claim7.holds Tryd.pinned (.plain (OpenSpec.upto traceLinesSpec)) traceLinesUptoCard

/-- THE SECOND FORM's CARD OF 'droguelaw20.TraceRows'. -/
def traceRowsUptoCard : Claim7 := { stood := { row := traceRowsUptoRow, standIns := [], harness := (true, "eaa7206d99c656d7e962339a401ca1be85e411b613dbf42c182099a8dcd98fdd"), looks := true }, kinds := [], alts := [], laidByText := true, laidKinds := [.data, .data, .data, .sentinel, .sentinel], laidTests := true, laidLooks := .later }
def TraceRowsUptoCardSaid : Prop := Claim7.holds Tryd.pinned (.plain (OpenSpec.upto traceRowsSpec)) traceRowsUptoCard

/-- THE SECOND FORM's CARD OF 'droguelaw20.TraceFronts'. -/
def traceFrontsUptoCard : Claim7 := { stood := { row := traceFrontsUptoRow, standIns := [], harness := (true, "eaa7206d99c656d7e962339a401ca1be85e411b613dbf42c182099a8dcd98fdd"), looks := true }, kinds := [], alts := [], laidByText := true, laidKinds := [.data, .data, .data, .sentinel, .sentinel], laidTests := true, laidLooks := .later }
def TraceFrontsUptoCardSaid : Prop := Claim7.holds Tryd.pinned (.plain (OpenSpec.upto traceFrontsSpec)) traceFrontsUptoCard

/-- THE SECOND FORM's CARD OF 'droguelaw20.TraceAlike'. -/
def traceAlikeUptoCard : Claim7 := { stood := { row := traceAlikeUptoRow, standIns := [], harness := (true, "eaa7206d99c656d7e962339a401ca1be85e411b613dbf42c182099a8dcd98fdd"), looks := true }, kinds := [], alts := [], laidByText := true, laidKinds := [.data, .data, .data, .sentinel, .sentinel], laidTests := true, laidLooks := .later }
def TraceAlikeUptoCardSaid : Prop := Claim7.holds Tryd.pinned (.plain (OpenSpec.upto traceAlikeSpec)) traceAlikeUptoCard

/-- THE SECOND FORM's CARD OF 'droguelaw20.TraceJoins'. -/
def traceJoinsUptoCard : Claim7 := { stood := { row := traceJoinsUptoRow, standIns := [], harness := (true, "eaa7206d99c656d7e962339a401ca1be85e411b613dbf42c182099a8dcd98fdd"), looks := true }, kinds := [], alts := [], laidByText := true, laidKinds := [.data, .data, .data, .sentinel, .sentinel], laidTests := true, laidLooks := .later }
def TraceJoinsUptoCardSaid : Prop := Claim7.holds Tryd.pinned (.plain (OpenSpec.upto traceJoinsSpec)) traceJoinsUptoCard
end Rows
end Go.Proofs.YtlkppkmfpinocaaDoor

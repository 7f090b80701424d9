/-
  DERIVED. GIVEN WITH THE SEED: THE CARDS: each row of YtmgkejobolgkmaaDoorRows.lean that lists a variable, with what it lists TIED to the program's text (the seventh form; the later family's looks); each row that meets fmt, with fmt's text TOLD by the authors' own Lean function (tested against real Go, not proved from fmt's source: count such statements apart). THE CARD IS WHAT COUNTS. Prove the row's statement (the work); the ties are given (YtmgkejobolgkmaaDoorTie.lean); close each card by the builder's one call (the guide's Derived/Test/ToyasCard.lean, 'card_holds'). Laid BY PROGRAM, IN A SANDBOX (cutbox-door.mjs). By AI agents, Wed Nov 11 2026. No macro, syntax, notation, axiom, sorry.
-/
import Derived.Test.YtmgkejobolgkmaaDoorRows
import GoSem.ClaimSeven
namespace Go.Proofs.YtmgkejobolgkmaaDoor
namespace Rows

/-- THE TIED CARD OF 'droguelaw06.ParseCuts'. -/
def parseCutsCard : Claim7 := { stood := { row := parseCutsRow, standIns := [], harness := (true, "3b703c5030c02a4950840007b3e07efe3fc68ddda81c1ee260eefda1f5141060"), looks := true }, kinds := [], alts := [], laidByText := true, laidKinds := [.data, .data, .data, .sentinel, .sentinel, .listed, .data], laidTests := true, laidLooks := .later }
def ParseCutsCardSaid : Prop := Claim7.holds Tryd.pinned (.plain (OpenSpec.ofChange parseCutsSpec)) parseCutsCard

/-- THE SECOND FORM's CARD OF 'droguelaw06.ParseCuts'. -/
def parseCutsUptoCard : Claim7 := { stood := { row := parseCutsUptoRow, standIns := [], harness := (true, "3b703c5030c02a4950840007b3e07efe3fc68ddda81c1ee260eefda1f5141060"), looks := true }, kinds := [], alts := [], laidByText := true, laidKinds := [.data, .data, .data, .sentinel, .sentinel, .listed, .data], laidTests := true, laidLooks := .later }
def ParseCutsUptoCardSaid : Prop := Claim7.holds Tryd.pinned (.plain (OpenSpec.upto parseCutsSpec)) parseCutsUptoCard
end Rows
end Go.Proofs.YtmgkejobolgkmaaDoor

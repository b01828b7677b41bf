/-
  DERIVED. GIVEN WITH THE SEED: THE CARDS: each row of YtdkhbegheognnaaGreatDoorRows.lean that lists a variable, with what it lists TIED to the program's text (the seventh form; the later family's looks); each row that meets fmt, with fmt's text TOLD by the authors' own Lean function (tested against real Go, not proved from fmt's source: count such statements apart). THE CARD IS WHAT COUNTS. Prove the row's statement (the work); the ties are given (YtdkhbegheognnaaGreatDoorTie.lean); close each card by the builder's one call (the guide's Derived/Test/ToyasCard.lean, 'card_holds'). Laid BY PROGRAM, IN A SANDBOX (cutbox-door.mjs). By AI agents, Wed Nov 11 2026. No macro, syntax, notation, axiom, sorry.
-/
import Derived.Test.YtdkhbegheognnaaGreatDoorRows
import GoSem.ClaimSeven
namespace Go.Proofs.YtdkhbegheognnaaGreatDoor
namespace Rows

/-- THE TIED CARD OF 'pantrytop.TopEvicts'. -/
def topEvictsCard : Claim7 := { stood := { row := topEvictsRow, standIns := [], harness := (true, "73b5c5d796f3a16eccabe7b74b72b2d07355ed7b2a22143b702fe381e490cc01"), looks := true }, kinds := [], alts := [], laidByText := true, laidKinds := [.handle], laidTests := true, laidLooks := .later }
def TopEvictsCardSaid : Prop := Claim7.holds Tryz.pinned (.plain (OpenSpec.ofChange topEvictsSpec)) topEvictsCard

/-- THE SECOND FORM's CARD OF 'pantrytop.TopEvicts'. -/
def topEvictsUptoCard : Claim7 := { stood := { row := topEvictsUptoRow, standIns := [], harness := (true, "73b5c5d796f3a16eccabe7b74b72b2d07355ed7b2a22143b702fe381e490cc01"), looks := true }, kinds := [], alts := [], laidByText := true, laidKinds := [.handle], laidTests := true, laidLooks := .later }
def TopEvictsUptoCardSaid : Prop := Claim7.holds Tryz.pinned (.plain (OpenSpec.upto topEvictsSpec)) topEvictsUptoCard
end Rows
end Go.Proofs.YtdkhbegheognnaaGreatDoor

/-
  DERIVED. GIVEN WITH THE SEED: THE CARDS: each row of YtahbigcjlindeaaDoorRows.lean that lists a variable, with what it lists TIED to the program's text (the seventh form; the later family's looks); each row that meets fmt, with fmt's text TOLD by the authors' own Lean function (tested against real Go, not proved from fmt's source: count such statements apart). THE CARD IS WHAT COUNTS. Prove the row's statement (the work); the ties are given (YtahbigcjlindeaaDoorTie.lean); close each card by the builder's one call (the guide's Derived/Test/ToyasCard.lean, 'card_holds'). Laid BY PROGRAM, IN A SANDBOX (cutbox-door.mjs). By AI agents, Wed Nov 11 2026. No macro, syntax, notation, axiom, sorry.
-/
import Derived.Test.YtahbigcjlindeaaDoorRows
import GoSem.ClaimSeven
namespace Go.Proofs.YtahbigcjlindeaaDoor
namespace Rows

/-- THE TIED CARD OF 'pantrylaw08.WeighGrows'. -/
def weighGrowsCard : Claim7 := { stood := { row := weighGrowsRow, standIns := [], harness := (true, "bffcfc2c54c3fc27a864edb8fdd603730495ed458932fed880116788c985f19a"), looks := true }, kinds := [], alts := [], laidByText := true, laidKinds := [.handle], laidTests := true, laidLooks := .later }
def WeighGrowsCardSaid : Prop := Claim7.holds Tryd.pinned (.plain (OpenSpec.ofChange weighGrowsSpec)) weighGrowsCard

/-- THE TIED CARD OF 'pantrylaw08.WeighSums'. -/
def weighSumsCard : Claim7 := { stood := { row := weighSumsRow, standIns := [], harness := (true, "bffcfc2c54c3fc27a864edb8fdd603730495ed458932fed880116788c985f19a"), looks := true }, kinds := [], alts := [], laidByText := true, laidKinds := [.handle], laidTests := true, laidLooks := .later }
def WeighSumsCardSaid : Prop := Claim7.holds Tryd.pinned (.plain (OpenSpec.ofChange weighSumsSpec)) weighSumsCard

/-- THE TIED CARD OF 'pantrylaw08.WeighAdmits'. -/
def weighAdmitsCard : Claim7 := { stood := { row := weighAdmitsRow, standIns := [], harness := (true, "bffcfc2c54c3fc27a864edb8fdd603730495ed458932fed880116788c985f19a"), looks := true }, kinds := [], alts := [], laidByText := true, laidKinds := [.handle], laidTests := true, laidLooks := .later }
def WeighAdmitsCardSaid : Prop := Claim7.holds Tryd.pinned (.plain (OpenSpec.ofChange weighAdmitsSpec)) weighAdmitsCard

/-- THE TIED CARD OF 'pantrylaw08.WeighTotals'. -/
def weighTotalsCard : Claim7 := { stood := { row := weighTotalsRow, standIns := [], harness := (true, "bffcfc2c54c3fc27a864edb8fdd603730495ed458932fed880116788c985f19a"), looks := true }, kinds := [], alts := [], laidByText := true, laidKinds := [.handle], laidTests := true, laidLooks := .later }
def WeighTotalsCardSaid : Prop := Claim7.holds Tryd.pinned (.plain (OpenSpec.ofChange weighTotalsSpec)) weighTotalsCard

/-- THE TIED CARD OF 'pantrylaw08.WeighAll'. -/
def weighAllCard : Claim7 := { stood := { row := weighAllRow, standIns := [], harness := (true, "bffcfc2c54c3fc27a864edb8fdd603730495ed458932fed880116788c985f19a"), looks := true }, kinds := [], alts := [], laidByText := true, laidKinds := [.handle], laidTests := true, laidLooks := .later }
def WeighAllCardSaid : Prop := Claim7.holds Tryd.pinned (.plain (OpenSpec.ofChange weighAllSpec)) weighAllCard

/-- THE SECOND FORM's CARD OF 'pantrylaw08.WeighGrows'. -/
def weighGrowsUptoCard : Claim7 := { stood := { row := weighGrowsUptoRow, standIns := [], harness := (true, "bffcfc2c54c3fc27a864edb8fdd603730495ed458932fed880116788c985f19a"), looks := true }, kinds := [], alts := [], laidByText := true, laidKinds := [.handle], laidTests := true, laidLooks := .later }
def WeighGrowsUptoCardSaid : Prop := Claim7.holds Tryd.pinned (.plain (OpenSpec.upto weighGrowsSpec)) weighGrowsUptoCard

/-- THE SECOND FORM's CARD OF 'pantrylaw08.WeighSums'. -/
def weighSumsUptoCard : Claim7 := { stood := { row := weighSumsUptoRow, standIns := [], harness := (true, "bffcfc2c54c3fc27a864edb8fdd603730495ed458932fed880116788c985f19a"), looks := true }, kinds := [], alts := [], laidByText := true, laidKinds := [.handle], laidTests := true, laidLooks := .later }
def WeighSumsUptoCardSaid : Prop := Claim7.holds Tryd.pinned (.plain (OpenSpec.upto weighSumsSpec)) weighSumsUptoCard

/-- THE SECOND FORM's CARD OF 'pantrylaw08.WeighAdmits'. -/
def weighAdmitsUptoCard : Claim7 := { stood := { row := weighAdmitsUptoRow, standIns := [], harness := (true, "bffcfc2c54c3fc27a864edb8fdd603730495ed458932fed880116788c985f19a"), looks := true }, kinds := [], alts := [], laidByText := true, laidKinds := [.handle], laidTests := true, laidLooks := .later }
def WeighAdmitsUptoCardSaid : Prop := Claim7.holds Tryd.pinned (.plain (OpenSpec.upto weighAdmitsSpec)) weighAdmitsUptoCard

/-- THE SECOND FORM's CARD OF 'pantrylaw08.WeighTotals'. -/
def weighTotalsUptoCard : Claim7 := { stood := { row := weighTotalsUptoRow, standIns := [], harness := (true, "bffcfc2c54c3fc27a864edb8fdd603730495ed458932fed880116788c985f19a"), looks := true }, kinds := [], alts := [], laidByText := true, laidKinds := [.handle], laidTests := true, laidLooks := .later }
def WeighTotalsUptoCardSaid : Prop := Claim7.holds Tryd.pinned (.plain (OpenSpec.upto weighTotalsSpec)) weighTotalsUptoCard

/-- THE SECOND FORM's CARD OF 'pantrylaw08.WeighAll'. -/
def weighAllUptoCard : Claim7 := { stood := { row := weighAllUptoRow, standIns := [], harness := (true, "bffcfc2c54c3fc27a864edb8fdd603730495ed458932fed880116788c985f19a"), looks := true }, kinds := [], alts := [], laidByText := true, laidKinds := [.handle], laidTests := true, laidLooks := .later }
def WeighAllUptoCardSaid : Prop := Claim7.holds Tryd.pinned (.plain (OpenSpec.upto weighAllSpec)) weighAllUptoCard
end Rows
end Go.Proofs.YtahbigcjlindeaaDoor

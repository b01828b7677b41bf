/-
  DERIVED. GIVEN WITH THE SEED: THE CARDS: each row of YtlnekfodkeifkaaDoorRows.lean that lists a variable, with what it lists TIED to the program's text (the seventh form; the later family's looks); each row that meets fmt, with fmt's text TOLD by the authors' own Lean function (tested against real Go, not proved from fmt's source: count such statements apart). THE CARD IS WHAT COUNTS. Prove the row's statement (the work); the ties are given (YtlnekfodkeifkaaDoorTie.lean); close each card by the builder's one call (the guide's Derived/Test/ToyasCard.lean, 'card_holds'). Laid BY PROGRAM, IN A SANDBOX (cutbox-door.mjs). By AI agents, Wed Nov 11 2026. No macro, syntax, notation, axiom, sorry.
-/
import Derived.Test.YtlnekfodkeifkaaDoorRows
import GoSem.ClaimSeven
namespace Go.Proofs.YtlnekfodkeifkaaDoor
namespace Rows

/-- THE TIED CARD OF 'pantrylaw14.WritesWeigh'. -/
def writesWeighCard : Claim7 := { stood := { row := writesWeighRow, standIns := [], harness := (true, "2bbc868a20eb0103581c88ab71eba0b61187be0f558261eba97aad0032a2de0a"), looks := true }, kinds := [], alts := [], laidByText := true, laidKinds := [.handle], laidTests := true, laidLooks := .later }
def WritesWeighCardSaid : Prop := Claim7.holds Tryd.pinned (.plain (OpenSpec.ofChange writesWeighSpec)) writesWeighCard

/-- THE TIED CARD OF 'pantrylaw14.WritesOrder'. -/
def writesOrderCard : Claim7 := { stood := { row := writesOrderRow, standIns := [], harness := (true, "2bbc868a20eb0103581c88ab71eba0b61187be0f558261eba97aad0032a2de0a"), looks := true }, kinds := [], alts := [], laidByText := true, laidKinds := [.handle], laidTests := true, laidLooks := .later }
def WritesOrderCardSaid : Prop := Claim7.holds Tryd.pinned (.plain (OpenSpec.ofChange writesOrderSpec)) writesOrderCard

/-- THE TIED CARD OF 'pantrylaw14.WritesRoom'. -/
def writesRoomCard : Claim7 := { stood := { row := writesRoomRow, standIns := [], harness := (true, "2bbc868a20eb0103581c88ab71eba0b61187be0f558261eba97aad0032a2de0a"), looks := true }, kinds := [], alts := [], laidByText := true, laidKinds := [.handle], laidTests := true, laidLooks := .later }
def WritesRoomCardSaid : Prop := Claim7.holds Tryd.pinned (.plain (OpenSpec.ofChange writesRoomSpec)) writesRoomCard

/-- THE TIED CARD OF 'pantrylaw14.WritesPlay'. -/
def writesPlayCard : Claim7 := { stood := { row := writesPlayRow, standIns := [], harness := (true, "2bbc868a20eb0103581c88ab71eba0b61187be0f558261eba97aad0032a2de0a"), looks := true }, kinds := [], alts := [], laidByText := true, laidKinds := [.handle], laidTests := true, laidLooks := .later }
def WritesPlayCardSaid : Prop := Claim7.holds Tryd.pinned (.plain (OpenSpec.ofChange writesPlaySpec)) writesPlayCard

/-- THE SECOND FORM's CARD OF 'pantrylaw14.WritesWeigh'. -/
def writesWeighUptoCard : Claim7 := { stood := { row := writesWeighUptoRow, standIns := [], harness := (true, "2bbc868a20eb0103581c88ab71eba0b61187be0f558261eba97aad0032a2de0a"), looks := true }, kinds := [], alts := [], laidByText := true, laidKinds := [.handle], laidTests := true, laidLooks := .later }
def WritesWeighUptoCardSaid : Prop := Claim7.holds Tryd.pinned (.plain (OpenSpec.upto writesWeighSpec)) writesWeighUptoCard

/-- THE SECOND FORM's CARD OF 'pantrylaw14.WritesOrder'. -/
def writesOrderUptoCard : Claim7 := { stood := { row := writesOrderUptoRow, standIns := [], harness := (true, "2bbc868a20eb0103581c88ab71eba0b61187be0f558261eba97aad0032a2de0a"), looks := true }, kinds := [], alts := [], laidByText := true, laidKinds := [.handle], laidTests := true, laidLooks := .later }
def WritesOrderUptoCardSaid : Prop := Claim7.holds Tryd.pinned (.plain (OpenSpec.upto writesOrderSpec)) writesOrderUptoCard

/-- THE SECOND FORM's CARD OF 'pantrylaw14.WritesRoom'. -/
def writesRoomUptoCard : Claim7 := { stood := { row := writesRoomUptoRow, standIns := [], harness := (true, "2bbc868a20eb0103581c88ab71eba0b61187be0f558261eba97aad0032a2de0a"), looks := true }, kinds := [], alts := [], laidByText := true, laidKinds := [.handle], laidTests := true, laidLooks := .later }
def WritesRoomUptoCardSaid : Prop := Claim7.holds Tryd.pinned (.plain (OpenSpec.upto writesRoomSpec)) writesRoomUptoCard

/-- THE SECOND FORM's CARD OF 'pantrylaw14.WritesPlay'. -/
def writesPlayUptoCard : Claim7 := { stood := { row := writesPlayUptoRow, standIns := [], harness := (true, "2bbc868a20eb0103581c88ab71eba0b61187be0f558261eba97aad0032a2de0a"), looks := true }, kinds := [], alts := [], laidByText := true, laidKinds := [.handle], laidTests := true, laidLooks := .later }
def WritesPlayUptoCardSaid : Prop := Claim7.holds Tryd.pinned (.plain (OpenSpec.upto writesPlaySpec)) writesPlayUptoCard
end Rows
end Go.Proofs.YtlnekfodkeifkaaDoor

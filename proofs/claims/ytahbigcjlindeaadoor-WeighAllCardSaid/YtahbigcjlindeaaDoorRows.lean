/-
  NARROWER THAN 'FOR EVERY INPUT', by the rows' own cells (each row's printed sentence says how): WeighGrows: laid · WeighSums: laid · WeighAdmits: laid · WeighTotals: laid · WeighAll: laid.
  DERIVED. THE GIVEN ROWS OF THIS SEAT. 5 by the template 'for every input the law returns true; each argument reads behind the call as it read before'; 0 by the template 'total and deterministic' (their statements: YtahbigcjlindeaaDoorTotals.lean).
  GIVEN WITH THE SEED: the statements are not yours to turn. If you find one false, say at which input.
  Laid BY PROGRAM, IN A SANDBOX (cutbox-rows.mjs): the forced cells as the released guide's own fill.sh prints them over the translation 4185780851870146… (all of the seat's roots in one cut). By AI agents, Wed Nov 11 2026. No macro, syntax, notation, axiom, sorry.
-/
import Derived.Test.YtahbigcjlindeaaDoorChecked
import GoSem.Claim
import GoSem.ClaimJoined
import GoSem.ClaimMapViews
import Derived.JoinedTies
import Derived.KernelRfl
namespace Go.Proofs.YtahbigcjlindeaaDoor
/- THE CELL 'sum', in the pinned program and in every row, IS THE sha256 OF THE DUMP (.gsa) THAT YtahbigcjlindeaaDoorProg.lean LOADS. Nothing in Lean hashes anything: it is a label: what it is worth is what the hold of that sum in a sandbox is worth. -/
noncomputable def Tryd.pinned : Pinned := { name := "ytahbigcjlindeaadoor", sum := "4185780851870146ca6dd9e64697f1be9318d8a7ef81a1c8be3ad030cdc0c768", checked := Tryd.checked }
namespace Rows
def none {H : Type} : Left H := { results := [], args := [] }

/- WHAT THE LISTED PACKAGE-LEVEL VARIABLES READ AS WHEN THE CALL BEGINS. Each datum BY PROGRAM (the guide's laid-datum.mjs) off the statement by which the dump's own 'gosem.cut.vars' lays the variable. In a bare row this is a premise. The card (YtahbigcjlindeaaDoorCards.lean) ties it to the program's text. -/
def laid_errors_errorType {H : Type} : DataW H := .iface "internal/reflectlite.rtype" (.agg [.ptr (.lit (.string [101, 114, 114, 111, 114]))])

/-- 'pantrylaw08.WeighGrows': WHATEVER THE INPUT: true; the input reads as it did. -/
def weighGrowsSpec : ChangeSpec := { name := "weighGrows", fn := fun _ => fun
  | [d1, d2, d3, d4, d5] => { results := [.lit (.bool true)], args := [d1, d2, d3, d4, d5] }
  | _ => none }
def weighGrowsRow : OpenClaim := { program := "ytahbigcjlindeaadoor", sum := "4185780851870146ca6dd9e64697f1be9318d8a7ef81a1c8be3ad030cdc0c768", func := "pantry/pantrylaw08.WeighGrows", spec := "weighGrows", inPlace := ["internal/reflectlite.TypeOf", "internal/reflectlite.ValueOf", "(internal/reflectlite.Value).Type", "(internal/reflectlite.Value).IsNil", "(internal/reflectlite.Value).Elem", "(internal/reflectlite.Value).Set"], unfollowed := true, recurses := true, named := ["errors.errorType"], apart := false, laid := [("errors.errorType", laid_errors_errorType)] }
def WeighGrowsSaid : Prop := weighGrowsRow.holds Tryd.pinned (OpenSpec.ofChange weighGrowsSpec)

/-- ITS FALSE NEIGHBOUR: 'it returns false'. Refute it at one input. -/
def weighGrowsWrong : ChangeSpec := { name := "weighGrows", fn := fun _ => fun
  | [d1, d2, d3, d4, d5] => { results := [.lit (.bool false)], args := [d1, d2, d3, d4, d5] }
  | _ => none }
def WeighGrowsWrongFalsely : Prop := weighGrowsRow.holds Tryd.pinned (OpenSpec.ofChange weighGrowsWrong)

/-- 'pantrylaw08.WeighSums': WHATEVER THE INPUT: true; the input reads as it did. -/
def weighSumsSpec : ChangeSpec := { name := "weighSums", fn := fun _ => fun
  | [d1, d2] => { results := [.lit (.bool true)], args := [d1, d2] }
  | _ => none }
def weighSumsRow : OpenClaim := { program := "ytahbigcjlindeaadoor", sum := "4185780851870146ca6dd9e64697f1be9318d8a7ef81a1c8be3ad030cdc0c768", func := "pantry/pantrylaw08.WeighSums", spec := "weighSums", inPlace := ["internal/reflectlite.TypeOf", "internal/reflectlite.ValueOf", "(internal/reflectlite.Value).Type", "(internal/reflectlite.Value).IsNil", "(internal/reflectlite.Value).Elem", "(internal/reflectlite.Value).Set"], unfollowed := true, recurses := true, named := ["errors.errorType"], apart := false, laid := [("errors.errorType", laid_errors_errorType)] }
def WeighSumsSaid : Prop := weighSumsRow.holds Tryd.pinned (OpenSpec.ofChange weighSumsSpec)

/-- ITS FALSE NEIGHBOUR: 'it returns false'. Refute it at one input. -/
def weighSumsWrong : ChangeSpec := { name := "weighSums", fn := fun _ => fun
  | [d1, d2] => { results := [.lit (.bool false)], args := [d1, d2] }
  | _ => none }
def WeighSumsWrongFalsely : Prop := weighSumsRow.holds Tryd.pinned (OpenSpec.ofChange weighSumsWrong)

/-- 'pantrylaw08.WeighAdmits': WHATEVER THE INPUT: true; the input reads as it did. -/
def weighAdmitsSpec : ChangeSpec := { name := "weighAdmits", fn := fun _ => fun
  | [d1, d2, d3] => { results := [.lit (.bool true)], args := [d1, d2, d3] }
  | _ => none }
def weighAdmitsRow : OpenClaim := { program := "ytahbigcjlindeaadoor", sum := "4185780851870146ca6dd9e64697f1be9318d8a7ef81a1c8be3ad030cdc0c768", func := "pantry/pantrylaw08.WeighAdmits", spec := "weighAdmits", inPlace := ["internal/reflectlite.TypeOf", "internal/reflectlite.ValueOf", "(internal/reflectlite.Value).Type", "(internal/reflectlite.Value).IsNil", "(internal/reflectlite.Value).Elem", "(internal/reflectlite.Value).Set"], unfollowed := true, recurses := true, named := ["errors.errorType"], apart := false, laid := [("errors.errorType", laid_errors_errorType)] }
def WeighAdmitsSaid : Prop := weighAdmitsRow.holds Tryd.pinned (OpenSpec.ofChange weighAdmitsSpec)

/-- ITS FALSE NEIGHBOUR: 'it returns false'. Refute it at one input. -/
def weighAdmitsWrong : ChangeSpec := { name := "weighAdmits", fn := fun _ => fun
  | [d1, d2, d3] => { results := [.lit (.bool false)], args := [d1, d2, d3] }
  | _ => none }
def WeighAdmitsWrongFalsely : Prop := weighAdmitsRow.holds Tryd.pinned (OpenSpec.ofChange weighAdmitsWrong)

/-- 'pantrylaw08.WeighTotals': WHATEVER THE INPUT: true; the input reads as it did. -/
def weighTotalsSpec : ChangeSpec := { name := "weighTotals", fn := fun _ => fun
  | [d] => { results := [.lit (.bool true)], args := [d] }
  | _ => none }
def weighTotalsRow : OpenClaim := { program := "ytahbigcjlindeaadoor", sum := "4185780851870146ca6dd9e64697f1be9318d8a7ef81a1c8be3ad030cdc0c768", func := "pantry/pantrylaw08.WeighTotals", spec := "weighTotals", inPlace := ["internal/reflectlite.TypeOf", "internal/reflectlite.ValueOf", "(internal/reflectlite.Value).Type", "(internal/reflectlite.Value).IsNil", "(internal/reflectlite.Value).Elem", "(internal/reflectlite.Value).Set"], unfollowed := true, recurses := true, named := ["errors.errorType"], apart := false, laid := [("errors.errorType", laid_errors_errorType)] }
def WeighTotalsSaid : Prop := weighTotalsRow.holds Tryd.pinned (OpenSpec.ofChange weighTotalsSpec)

/-- ITS FALSE NEIGHBOUR: 'it returns false'. Refute it at one input. -/
def weighTotalsWrong : ChangeSpec := { name := "weighTotals", fn := fun _ => fun
  | [d] => { results := [.lit (.bool false)], args := [d] }
  | _ => none }
def WeighTotalsWrongFalsely : Prop := weighTotalsRow.holds Tryd.pinned (OpenSpec.ofChange weighTotalsWrong)

/-- 'pantrylaw08.WeighAll': WHATEVER THE INPUT: true; the input reads as it did. -/
def weighAllSpec : ChangeSpec := { name := "weighAll", fn := fun _ => fun
  | [d1, d2, d3] => { results := [.lit (.bool true)], args := [d1, d2, d3] }
  | _ => none }
def weighAllRow : OpenClaim := { program := "ytahbigcjlindeaadoor", sum := "4185780851870146ca6dd9e64697f1be9318d8a7ef81a1c8be3ad030cdc0c768", func := "pantry/pantrylaw08.WeighAll", spec := "weighAll", inPlace := ["internal/reflectlite.TypeOf", "internal/reflectlite.ValueOf", "(internal/reflectlite.Value).Type", "(internal/reflectlite.Value).IsNil", "(internal/reflectlite.Value).Elem", "(internal/reflectlite.Value).Set"], unfollowed := true, recurses := true, named := ["errors.errorType"], apart := false, laid := [("errors.errorType", laid_errors_errorType)] }
def WeighAllSaid : Prop := weighAllRow.holds Tryd.pinned (OpenSpec.ofChange weighAllSpec)

/-- ITS FALSE NEIGHBOUR: 'it returns false'. Refute it at one input. -/
def weighAllWrong : ChangeSpec := { name := "weighAll", fn := fun _ => fun
  | [d1, d2, d3] => { results := [.lit (.bool false)], args := [d1, d2, d3] }
  | _ => none }
def WeighAllWrongFalsely : Prop := weighAllRow.holds Tryd.pinned (OpenSpec.ofChange weighAllWrong)

/- THE SECOND FORM. 'bulk': how many values and letters a reading holds, each counted each time it is reached (what is shared counts as often as it is met; a slice's spare places count too). A statement '..UptoSaid' is the law's where the arguments, and the package variables that the reading takes, are together of bulk at most 1048576: NARROWER than '..Said'. Prove '..Said' where nothing that the law and all that it calls make is longer than what came in: it says more and counts as full. Else prove '..UptoSaid'. A law counts once. -/
mutual
def uptoBulk {H : Type} : DataW H → Nat
  | .lit (.string bytes) => bytes.length + 1
  | .lit _ => 1
  | .nil => 1
  | .ptr d => uptoBulk d + 1
  | .slice elems spare => uptoBulkAll elems + uptoBulkAll spare + 1
  | .agg parts => uptoBulkAll parts + 1
  | .iface _ d => uptoBulk d + 1
  | .map entries => uptoBulkEntries entries + 1
  | .held _ => 1
def uptoBulkAll {H : Type} : List (DataW H) → Nat
  | [] => 0
  | d :: r => uptoBulk d + uptoBulkAll r
def uptoBulkEntries {H : Type} : List (Lit × DataW H) → Nat
  | [] => 0
  | x :: r => uptoBulkEntry x + uptoBulkEntries r
def uptoBulkEntry {H : Type} : Lit × DataW H → Nat
  | (.string bytes, d) => bytes.length + uptoBulk d + 1
  | (_, d) => uptoBulk d + 1
 end
def uptoSmall : (H : Type) → List (DataW H) → Bool := fun _ ds => decide (uptoBulkAll ds ≤ 1048576)
def OpenSpec.upto (s : _root_.Go.ChangeSpec) : _root_.Go.OpenSpec := { _root_.Go.OpenSpec.ofChange s with cond := some uptoSmall }

/-- 'pantrylaw08.WeighGrows', WHERE WHAT IT READS IS OF BULK AT MOST 1048576: true; the input reads as it did. -/
def weighGrowsUptoRow : OpenClaim := { program := "ytahbigcjlindeaadoor", sum := "4185780851870146ca6dd9e64697f1be9318d8a7ef81a1c8be3ad030cdc0c768", func := "pantry/pantrylaw08.WeighGrows", spec := "weighGrows", inPlace := ["internal/reflectlite.TypeOf", "internal/reflectlite.ValueOf", "(internal/reflectlite.Value).Type", "(internal/reflectlite.Value).IsNil", "(internal/reflectlite.Value).Elem", "(internal/reflectlite.Value).Set"], unfollowed := true, recurses := true, named := ["errors.errorType"], apart := false, laid := [("errors.errorType", laid_errors_errorType)], narrowed := true }
def WeighGrowsUptoSaid : Prop := weighGrowsUptoRow.holds Tryd.pinned (OpenSpec.upto weighGrowsSpec)

/-- 'pantrylaw08.WeighSums', WHERE WHAT IT READS IS OF BULK AT MOST 1048576: true; the input reads as it did. -/
def weighSumsUptoRow : OpenClaim := { program := "ytahbigcjlindeaadoor", sum := "4185780851870146ca6dd9e64697f1be9318d8a7ef81a1c8be3ad030cdc0c768", func := "pantry/pantrylaw08.WeighSums", spec := "weighSums", inPlace := ["internal/reflectlite.TypeOf", "internal/reflectlite.ValueOf", "(internal/reflectlite.Value).Type", "(internal/reflectlite.Value).IsNil", "(internal/reflectlite.Value).Elem", "(internal/reflectlite.Value).Set"], unfollowed := true, recurses := true, named := ["errors.errorType"], apart := false, laid := [("errors.errorType", laid_errors_errorType)], narrowed := true }
def WeighSumsUptoSaid : Prop := weighSumsUptoRow.holds Tryd.pinned (OpenSpec.upto weighSumsSpec)

/-- 'pantrylaw08.WeighAdmits', WHERE WHAT IT READS IS OF BULK AT MOST 1048576: true; the input reads as it did. -/
def weighAdmitsUptoRow : OpenClaim := { program := "ytahbigcjlindeaadoor", sum := "4185780851870146ca6dd9e64697f1be9318d8a7ef81a1c8be3ad030cdc0c768", func := "pantry/pantrylaw08.WeighAdmits", spec := "weighAdmits", inPlace := ["internal/reflectlite.TypeOf", "internal/reflectlite.ValueOf", "(internal/reflectlite.Value).Type", "(internal/reflectlite.Value).IsNil", "(internal/reflectlite.Value).Elem", "(internal/reflectlite.Value).Set"], unfollowed := true, recurses := true, named := ["errors.errorType"], apart := false, laid := [("errors.errorType", laid_errors_errorType)], narrowed := true }
def WeighAdmitsUptoSaid : Prop := weighAdmitsUptoRow.holds Tryd.pinned (OpenSpec.upto weighAdmitsSpec)

/-- 'pantrylaw08.WeighTotals', WHERE WHAT IT READS IS OF BULK AT MOST 1048576: true; the input reads as it did. -/
def weighTotalsUptoRow : OpenClaim := { program := "ytahbigcjlindeaadoor", sum := "4185780851870146ca6dd9e64697f1be9318d8a7ef81a1c8be3ad030cdc0c768", func := "pantry/pantrylaw08.WeighTotals", spec := "weighTotals", inPlace := ["internal/reflectlite.TypeOf", "internal/reflectlite.ValueOf", "(internal/reflectlite.Value).Type", "(internal/reflectlite.Value).IsNil", "(internal/reflectlite.Value).Elem", "(internal/reflectlite.Value).Set"], unfollowed := true, recurses := true, named := ["errors.errorType"], apart := false, laid := [("errors.errorType", laid_errors_errorType)], narrowed := true }
def WeighTotalsUptoSaid : Prop := weighTotalsUptoRow.holds Tryd.pinned (OpenSpec.upto weighTotalsSpec)

/-- 'pantrylaw08.WeighAll', WHERE WHAT IT READS IS OF BULK AT MOST 1048576: true; the input reads as it did. -/
def weighAllUptoRow : OpenClaim := { program := "ytahbigcjlindeaadoor", sum := "4185780851870146ca6dd9e64697f1be9318d8a7ef81a1c8be3ad030cdc0c768", func := "pantry/pantrylaw08.WeighAll", spec := "weighAll", inPlace := ["internal/reflectlite.TypeOf", "internal/reflectlite.ValueOf", "(internal/reflectlite.Value).Type", "(internal/reflectlite.Value).IsNil", "(internal/reflectlite.Value).Elem", "(internal/reflectlite.Value).Set"], unfollowed := true, recurses := true, named := ["errors.errorType"], apart := false, laid := [("errors.errorType", laid_errors_errorType)], narrowed := true }
def WeighAllUptoSaid : Prop := weighAllUptoRow.holds Tryd.pinned (OpenSpec.upto weighAllSpec)

end Rows
end Go.Proofs.YtahbigcjlindeaaDoor

/-
  NARROWER THAN 'FOR EVERY INPUT', by the rows' own cells (each row's printed sentence says how): WritesWeigh: laid · WritesOrder: laid · WritesRoom: laid · WritesPlay: laid.
  DERIVED. THE GIVEN ROWS OF THIS SEAT. 4 by the template 'for every input the law returns true; each argument reads behind the call as it read before'; 0 by the template 'total and deterministic' (their statements: YtlnekfodkeifkaaDoorTotals.lean).
  GIVEN WITH THE SEED: the statements are not yours to turn. If you find one false, say at which input.
  Laid BY PROGRAM, IN A SANDBOX (cutbox-rows.mjs): the forced cells as the released guide's own fill.sh prints them over the translation ce304e154836ee67… (all of the seat's roots in one cut). By AI agents, Wed Nov 11 2026. No macro, syntax, notation, axiom, sorry.
-/
import Derived.Test.YtlnekfodkeifkaaDoorChecked
import GoSem.Claim
import GoSem.ClaimJoined
import GoSem.ClaimMapViews
import Derived.JoinedTies
import Derived.KernelRfl
namespace Go.Proofs.YtlnekfodkeifkaaDoor
/- THE CELL 'sum', in the pinned program and in every row, IS THE sha256 OF THE DUMP (.gsa) THAT YtlnekfodkeifkaaDoorProg.lean LOADS. Nothing in Lean hashes anything: it is a label: what it is worth is what the hold of that sum in a sandbox is worth. -/
noncomputable def Tryd.pinned : Pinned := { name := "ytlnekfodkeifkaadoor", sum := "ce304e154836ee6716662102764fc26e1f70eb564b2c5a87828cf0e061eb3f2a", checked := Tryd.checked }
namespace Rows
def none {H : Type} : Left H := { results := [], args := [] }

/- WHAT THE LISTED PACKAGE-LEVEL VARIABLES READ AS WHEN THE CALL BEGINS. Each datum BY PROGRAM (the guide's laid-datum.mjs) off the statement by which the dump's own 'gosem.cut.vars' lays the variable. In a bare row this is a premise. The card (YtlnekfodkeifkaaDoorCards.lean) ties it to the program's text. -/
def laid_errors_errorType {H : Type} : DataW H := .iface "internal/reflectlite.rtype" (.agg [.ptr (.lit (.string [101, 114, 114, 111, 114]))])

/-- 'pantrylaw14.WritesWeigh': WHATEVER THE INPUT: true; the input reads as it did. -/
def writesWeighSpec : ChangeSpec := { name := "writesWeigh", fn := fun _ => fun
  | [d1, d2] => { results := [.lit (.bool true)], args := [d1, d2] }
  | _ => none }
def writesWeighRow : OpenClaim := { program := "ytlnekfodkeifkaadoor", sum := "ce304e154836ee6716662102764fc26e1f70eb564b2c5a87828cf0e061eb3f2a", func := "pantry/pantrylaw14.WritesWeigh", spec := "writesWeigh", inPlace := ["internal/reflectlite.ValueOf", "(internal/reflectlite.Value).Type", "(internal/reflectlite.Value).IsNil", "internal/reflectlite.TypeOf", "(internal/reflectlite.Value).Elem", "(internal/reflectlite.Value).Set"], unfollowed := true, recurses := true, named := ["errors.errorType"], apart := false, laid := [("errors.errorType", laid_errors_errorType)] }
def WritesWeighSaid : Prop := writesWeighRow.holds Tryd.pinned (OpenSpec.ofChange writesWeighSpec)

/-- ITS FALSE NEIGHBOUR: 'it returns false'. Refute it at one input. -/
def writesWeighWrong : ChangeSpec := { name := "writesWeigh", fn := fun _ => fun
  | [d1, d2] => { results := [.lit (.bool false)], args := [d1, d2] }
  | _ => none }
def WritesWeighWrongFalsely : Prop := writesWeighRow.holds Tryd.pinned (OpenSpec.ofChange writesWeighWrong)

/-- 'pantrylaw14.WritesOrder': WHATEVER THE INPUT: true; the input reads as it did. -/
def writesOrderSpec : ChangeSpec := { name := "writesOrder", fn := fun _ => fun
  | [d1, d2] => { results := [.lit (.bool true)], args := [d1, d2] }
  | _ => none }
def writesOrderRow : OpenClaim := { program := "ytlnekfodkeifkaadoor", sum := "ce304e154836ee6716662102764fc26e1f70eb564b2c5a87828cf0e061eb3f2a", func := "pantry/pantrylaw14.WritesOrder", spec := "writesOrder", inPlace := ["internal/reflectlite.ValueOf", "(internal/reflectlite.Value).Type", "(internal/reflectlite.Value).IsNil", "internal/reflectlite.TypeOf", "(internal/reflectlite.Value).Elem", "(internal/reflectlite.Value).Set"], unfollowed := true, recurses := true, named := ["errors.errorType"], apart := false, laid := [("errors.errorType", laid_errors_errorType)] }
def WritesOrderSaid : Prop := writesOrderRow.holds Tryd.pinned (OpenSpec.ofChange writesOrderSpec)

/-- ITS FALSE NEIGHBOUR: 'it returns false'. Refute it at one input. -/
def writesOrderWrong : ChangeSpec := { name := "writesOrder", fn := fun _ => fun
  | [d1, d2] => { results := [.lit (.bool false)], args := [d1, d2] }
  | _ => none }
def WritesOrderWrongFalsely : Prop := writesOrderRow.holds Tryd.pinned (OpenSpec.ofChange writesOrderWrong)

/-- 'pantrylaw14.WritesRoom': WHATEVER THE INPUT: true; the input reads as it did. -/
def writesRoomSpec : ChangeSpec := { name := "writesRoom", fn := fun _ => fun
  | [d1, d2] => { results := [.lit (.bool true)], args := [d1, d2] }
  | _ => none }
def writesRoomRow : OpenClaim := { program := "ytlnekfodkeifkaadoor", sum := "ce304e154836ee6716662102764fc26e1f70eb564b2c5a87828cf0e061eb3f2a", func := "pantry/pantrylaw14.WritesRoom", spec := "writesRoom", inPlace := ["internal/reflectlite.ValueOf", "(internal/reflectlite.Value).Type", "(internal/reflectlite.Value).IsNil", "internal/reflectlite.TypeOf", "(internal/reflectlite.Value).Elem", "(internal/reflectlite.Value).Set"], unfollowed := true, recurses := true, named := ["errors.errorType"], apart := false, laid := [("errors.errorType", laid_errors_errorType)] }
def WritesRoomSaid : Prop := writesRoomRow.holds Tryd.pinned (OpenSpec.ofChange writesRoomSpec)

/-- ITS FALSE NEIGHBOUR: 'it returns false'. Refute it at one input. -/
def writesRoomWrong : ChangeSpec := { name := "writesRoom", fn := fun _ => fun
  | [d1, d2] => { results := [.lit (.bool false)], args := [d1, d2] }
  | _ => none }
def WritesRoomWrongFalsely : Prop := writesRoomRow.holds Tryd.pinned (OpenSpec.ofChange writesRoomWrong)

/-- 'pantrylaw14.WritesPlay': WHATEVER THE INPUT: true; the input reads as it did. -/
def writesPlaySpec : ChangeSpec := { name := "writesPlay", fn := fun _ => fun
  | [d1, d2, d3] => { results := [.lit (.bool true)], args := [d1, d2, d3] }
  | _ => none }
def writesPlayRow : OpenClaim := { program := "ytlnekfodkeifkaadoor", sum := "ce304e154836ee6716662102764fc26e1f70eb564b2c5a87828cf0e061eb3f2a", func := "pantry/pantrylaw14.WritesPlay", spec := "writesPlay", inPlace := ["internal/reflectlite.ValueOf", "(internal/reflectlite.Value).Type", "(internal/reflectlite.Value).IsNil", "internal/reflectlite.TypeOf", "(internal/reflectlite.Value).Elem", "(internal/reflectlite.Value).Set"], unfollowed := true, recurses := true, named := ["errors.errorType"], apart := false, laid := [("errors.errorType", laid_errors_errorType)] }
def WritesPlaySaid : Prop := writesPlayRow.holds Tryd.pinned (OpenSpec.ofChange writesPlaySpec)

/-- ITS FALSE NEIGHBOUR: 'it returns false'. Refute it at one input. -/
def writesPlayWrong : ChangeSpec := { name := "writesPlay", fn := fun _ => fun
  | [d1, d2, d3] => { results := [.lit (.bool false)], args := [d1, d2, d3] }
  | _ => none }
def WritesPlayWrongFalsely : Prop := writesPlayRow.holds Tryd.pinned (OpenSpec.ofChange writesPlayWrong)

/- THE SECOND FORM. 'bulk': how many values and letters a reading holds, each counted each time it is reached (what is shared counts as often as it is met; a slice's spare places count too). A statement '..UptoSaid' is the law's where the arguments, and the package variables that the reading takes, are together of bulk at most 1048576: NARROWER than '..Said'. Prove '..Said' where nothing that the law and all that it calls make is longer than what came in: it says more and counts as full. Else prove '..UptoSaid'. A law counts once. -/
mutual
def uptoBulk {H : Type} : DataW H → Nat
  | .lit (.string bytes) => bytes.length + 1
  | .lit _ => 1
  | .nil => 1
  | .ptr d => uptoBulk d + 1
  | .slice elems spare => uptoBulkAll elems + uptoBulkAll spare + 1
  | .agg parts => uptoBulkAll parts + 1
  | .iface _ d => uptoBulk d + 1
  | .map entries => uptoBulkEntries entries + 1
  | .held _ => 1
def uptoBulkAll {H : Type} : List (DataW H) → Nat
  | [] => 0
  | d :: r => uptoBulk d + uptoBulkAll r
def uptoBulkEntries {H : Type} : List (Lit × DataW H) → Nat
  | [] => 0
  | x :: r => uptoBulkEntry x + uptoBulkEntries r
def uptoBulkEntry {H : Type} : Lit × DataW H → Nat
  | (.string bytes, d) => bytes.length + uptoBulk d + 1
  | (_, d) => uptoBulk d + 1
 end
def uptoSmall : (H : Type) → List (DataW H) → Bool := fun _ ds => decide (uptoBulkAll ds ≤ 1048576)
def OpenSpec.upto (s : _root_.Go.ChangeSpec) : _root_.Go.OpenSpec := { _root_.Go.OpenSpec.ofChange s with cond := some uptoSmall }

/-- 'pantrylaw14.WritesWeigh', WHERE WHAT IT READS IS OF BULK AT MOST 1048576: true; the input reads as it did. -/
def writesWeighUptoRow : OpenClaim := { program := "ytlnekfodkeifkaadoor", sum := "ce304e154836ee6716662102764fc26e1f70eb564b2c5a87828cf0e061eb3f2a", func := "pantry/pantrylaw14.WritesWeigh", spec := "writesWeigh", inPlace := ["internal/reflectlite.ValueOf", "(internal/reflectlite.Value).Type", "(internal/reflectlite.Value).IsNil", "internal/reflectlite.TypeOf", "(internal/reflectlite.Value).Elem", "(internal/reflectlite.Value).Set"], unfollowed := true, recurses := true, named := ["errors.errorType"], apart := false, laid := [("errors.errorType", laid_errors_errorType)], narrowed := true }
def WritesWeighUptoSaid : Prop := writesWeighUptoRow.holds Tryd.pinned (OpenSpec.upto writesWeighSpec)

/-- 'pantrylaw14.WritesOrder', WHERE WHAT IT READS IS OF BULK AT MOST 1048576: true; the input reads as it did. -/
def writesOrderUptoRow : OpenClaim := { program := "ytlnekfodkeifkaadoor", sum := "ce304e154836ee6716662102764fc26e1f70eb564b2c5a87828cf0e061eb3f2a", func := "pantry/pantrylaw14.WritesOrder", spec := "writesOrder", inPlace := ["internal/reflectlite.ValueOf", "(internal/reflectlite.Value).Type", "(internal/reflectlite.Value).IsNil", "internal/reflectlite.TypeOf", "(internal/reflectlite.Value).Elem", "(internal/reflectlite.Value).Set"], unfollowed := true, recurses := true, named := ["errors.errorType"], apart := false, laid := [("errors.errorType", laid_errors_errorType)], narrowed := true }
def WritesOrderUptoSaid : Prop := writesOrderUptoRow.holds Tryd.pinned (OpenSpec.upto writesOrderSpec)

/-- 'pantrylaw14.WritesRoom', WHERE WHAT IT READS IS OF BULK AT MOST 1048576: true; the input reads as it did. -/
def writesRoomUptoRow : OpenClaim := { program := "ytlnekfodkeifkaadoor", sum := "ce304e154836ee6716662102764fc26e1f70eb564b2c5a87828cf0e061eb3f2a", func := "pantry/pantrylaw14.WritesRoom", spec := "writesRoom", inPlace := ["internal/reflectlite.ValueOf", "(internal/reflectlite.Value).Type", "(internal/reflectlite.Value).IsNil", "internal/reflectlite.TypeOf", "(internal/reflectlite.Value).Elem", "(internal/reflectlite.Value).Set"], unfollowed := true, recurses := true, named := ["errors.errorType"], apart := false, laid := [("errors.errorType", laid_errors_errorType)], narrowed := true }
def WritesRoomUptoSaid : Prop := writesRoomUptoRow.holds Tryd.pinned (OpenSpec.upto writesRoomSpec)

/-- 'pantrylaw14.WritesPlay', WHERE WHAT IT READS IS OF BULK AT MOST 1048576: true; the input reads as it did. -/
def writesPlayUptoRow : OpenClaim := { program := "ytlnekfodkeifkaadoor", sum := "ce304e154836ee6716662102764fc26e1f70eb564b2c5a87828cf0e061eb3f2a", func := "pantry/pantrylaw14.WritesPlay", spec := "writesPlay", inPlace := ["internal/reflectlite.ValueOf", "(internal/reflectlite.Value).Type", "(internal/reflectlite.Value).IsNil", "internal/reflectlite.TypeOf", "(internal/reflectlite.Value).Elem", "(internal/reflectlite.Value).Set"], unfollowed := true, recurses := true, named := ["errors.errorType"], apart := false, laid := [("errors.errorType", laid_errors_errorType)], narrowed := true }
def WritesPlayUptoSaid : Prop := writesPlayUptoRow.holds Tryd.pinned (OpenSpec.upto writesPlaySpec)

end Rows
end Go.Proofs.YtlnekfodkeifkaaDoor

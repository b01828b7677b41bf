/-
  No cell of these rows narrows 'for every input' (looked for: loops, veiled, ifaces, maps, wideKeys, modest, calm, conditions, laid).
  DERIVED. THE GIVEN ROWS OF THIS SEAT. 6 by the template 'for every input the law returns true; each argument reads behind the call as it read before'; 0 by the template 'total and deterministic' (their statements: YtbjkcplbilopeaaTotals.lean).
  GIVEN WITH THE SEED: the statements are not yours to turn. If you find one false, say at which input.
  Laid BY PROGRAM, IN A SANDBOX (cutbox-rows.mjs): the forced cells as the released guide's own fill.sh prints them over the translation facaadcf23ecb555… (all of the seat's roots in one cut). By AI agents, Wed Nov 11 2026. No macro, syntax, notation, axiom, sorry.
-/
import Derived.Test.YtbjkcplbilopeaaChecked
import GoSem.Claim
import GoSem.ClaimJoined
import GoSem.ClaimMapViews
import Derived.JoinedTies
import Derived.KernelRfl
namespace Go.Proofs.Ytbjkcplbilopeaa
/- THE CELL 'sum', in the pinned program and in every row, IS THE sha256 OF THE DUMP (.gsa) THAT YtbjkcplbilopeaaProg.lean LOADS. Nothing in Lean hashes anything: it is a label: what it is worth is what the hold of that sum in a sandbox is worth. -/
noncomputable def Try.pinned : Pinned := { name := "ytbjkcplbilopeaa", sum := "facaadcf23ecb55544d9b544f89ed9f4ce0190875a3946058533f08d7d9bd586", checked := Try.checked }
namespace Rows
def none {H : Type} : Left H := { results := [], args := [] }

/-- 'pantrylaw20.PicksTell': WHATEVER THE INPUT: true; the input reads as it did. -/
def picksTellSpec : ChangeSpec := { name := "picksTell", fn := fun _ => fun
  | [d1, d2, d3, d4, d5] => { results := [.lit (.bool true)], args := [d1, d2, d3, d4, d5] }
  | _ => none }
def picksTellRow : OpenClaim := { program := "ytbjkcplbilopeaa", sum := "facaadcf23ecb55544d9b544f89ed9f4ce0190875a3946058533f08d7d9bd586", func := "pantry/pantrylaw20.PicksTell", spec := "picksTell", apart := false }
def PicksTellSaid : Prop := picksTellRow.holds Try.pinned (OpenSpec.ofChange picksTellSpec)

/-- ITS FALSE NEIGHBOUR: 'it returns false'. Refute it at one input. -/
def picksTellWrong : ChangeSpec := { name := "picksTell", fn := fun _ => fun
  | [d1, d2, d3, d4, d5] => { results := [.lit (.bool false)], args := [d1, d2, d3, d4, d5] }
  | _ => none }
def PicksTellWrongFalsely : Prop := picksTellRow.holds Try.pinned (OpenSpec.ofChange picksTellWrong)

/-- 'pantrylaw20.PicksFair': WHATEVER THE INPUT: true; the input reads as it did. -/
def picksFairSpec : ChangeSpec := { name := "picksFair", fn := fun _ => fun
  | [d1, d2, d3] => { results := [.lit (.bool true)], args := [d1, d2, d3] }
  | _ => none }
def picksFairRow : OpenClaim := { program := "ytbjkcplbilopeaa", sum := "facaadcf23ecb55544d9b544f89ed9f4ce0190875a3946058533f08d7d9bd586", func := "pantry/pantrylaw20.PicksFair", spec := "picksFair", apart := false }
def PicksFairSaid : Prop := picksFairRow.holds Try.pinned (OpenSpec.ofChange picksFairSpec)

/-- ITS FALSE NEIGHBOUR: 'it returns false'. Refute it at one input. -/
def picksFairWrong : ChangeSpec := { name := "picksFair", fn := fun _ => fun
  | [d1, d2, d3] => { results := [.lit (.bool false)], args := [d1, d2, d3] }
  | _ => none }
def PicksFairWrongFalsely : Prop := picksFairRow.holds Try.pinned (OpenSpec.ofChange picksFairWrong)

/-- 'pantrylaw20.PicksCount': WHATEVER THE INPUT: true; the input reads as it did. -/
def picksCountSpec : ChangeSpec := { name := "picksCount", fn := fun _ => fun
  | [d1, d2, d3] => { results := [.lit (.bool true)], args := [d1, d2, d3] }
  | _ => none }
def picksCountRow : OpenClaim := { program := "ytbjkcplbilopeaa", sum := "facaadcf23ecb55544d9b544f89ed9f4ce0190875a3946058533f08d7d9bd586", func := "pantry/pantrylaw20.PicksCount", spec := "picksCount", apart := false }
def PicksCountSaid : Prop := picksCountRow.holds Try.pinned (OpenSpec.ofChange picksCountSpec)

/-- ITS FALSE NEIGHBOUR: 'it returns false'. Refute it at one input. -/
def picksCountWrong : ChangeSpec := { name := "picksCount", fn := fun _ => fun
  | [d1, d2, d3] => { results := [.lit (.bool false)], args := [d1, d2, d3] }
  | _ => none }
def PicksCountWrongFalsely : Prop := picksCountRow.holds Try.pinned (OpenSpec.ofChange picksCountWrong)

/-- 'pantrylaw20.PicksRound': WHATEVER THE INPUT: true; the input reads as it did. -/
def picksRoundSpec : ChangeSpec := { name := "picksRound", fn := fun _ => fun
  | [d1, d2, d3, d4, d5] => { results := [.lit (.bool true)], args := [d1, d2, d3, d4, d5] }
  | _ => none }
def picksRoundRow : OpenClaim := { program := "ytbjkcplbilopeaa", sum := "facaadcf23ecb55544d9b544f89ed9f4ce0190875a3946058533f08d7d9bd586", func := "pantry/pantrylaw20.PicksRound", spec := "picksRound", apart := false }
def PicksRoundSaid : Prop := picksRoundRow.holds Try.pinned (OpenSpec.ofChange picksRoundSpec)

/-- ITS FALSE NEIGHBOUR: 'it returns false'. Refute it at one input. -/
def picksRoundWrong : ChangeSpec := { name := "picksRound", fn := fun _ => fun
  | [d1, d2, d3, d4, d5] => { results := [.lit (.bool false)], args := [d1, d2, d3, d4, d5] }
  | _ => none }
def PicksRoundWrongFalsely : Prop := picksRoundRow.holds Try.pinned (OpenSpec.ofChange picksRoundWrong)

/-- 'pantrylaw20.PicksSteps': WHATEVER THE INPUT: true; the input reads as it did. -/
def picksStepsSpec : ChangeSpec := { name := "picksSteps", fn := fun _ => fun
  | [d1, d2, d3, d4] => { results := [.lit (.bool true)], args := [d1, d2, d3, d4] }
  | _ => none }
def picksStepsRow : OpenClaim := { program := "ytbjkcplbilopeaa", sum := "facaadcf23ecb55544d9b544f89ed9f4ce0190875a3946058533f08d7d9bd586", func := "pantry/pantrylaw20.PicksSteps", spec := "picksSteps", apart := false }
def PicksStepsSaid : Prop := picksStepsRow.holds Try.pinned (OpenSpec.ofChange picksStepsSpec)

/-- ITS FALSE NEIGHBOUR: 'it returns false'. Refute it at one input. -/
def picksStepsWrong : ChangeSpec := { name := "picksSteps", fn := fun _ => fun
  | [d1, d2, d3, d4] => { results := [.lit (.bool false)], args := [d1, d2, d3, d4] }
  | _ => none }
def PicksStepsWrongFalsely : Prop := picksStepsRow.holds Try.pinned (OpenSpec.ofChange picksStepsWrong)

/-- 'pantrylaw20.PicksAround': WHATEVER THE INPUT: true; the input reads as it did. -/
def picksAroundSpec : ChangeSpec := { name := "picksAround", fn := fun _ => fun
  | [d1, d2, d3] => { results := [.lit (.bool true)], args := [d1, d2, d3] }
  | _ => none }
def picksAroundRow : OpenClaim := { program := "ytbjkcplbilopeaa", sum := "facaadcf23ecb55544d9b544f89ed9f4ce0190875a3946058533f08d7d9bd586", func := "pantry/pantrylaw20.PicksAround", spec := "picksAround", apart := false }
def PicksAroundSaid : Prop := picksAroundRow.holds Try.pinned (OpenSpec.ofChange picksAroundSpec)

/-- ITS FALSE NEIGHBOUR: 'it returns false'. Refute it at one input. -/
def picksAroundWrong : ChangeSpec := { name := "picksAround", fn := fun _ => fun
  | [d1, d2, d3] => { results := [.lit (.bool false)], args := [d1, d2, d3] }
  | _ => none }
def PicksAroundWrongFalsely : Prop := picksAroundRow.holds Try.pinned (OpenSpec.ofChange picksAroundWrong)

/- THE SECOND FORM. 'bulk': how many values and letters a reading holds, each counted each time it is reached (what is shared counts as often as it is met; a slice's spare places count too). A statement '..UptoSaid' is the law's where the arguments, and the package variables that the reading takes, are together of bulk at most 1048576: NARROWER than '..Said'. Prove '..Said' where nothing that the law and all that it calls make is longer than what came in: it says more and counts as full. Else prove '..UptoSaid'. A law counts once. -/
mutual
def uptoBulk {H : Type} : DataW H → Nat
  | .lit (.string bytes) => bytes.length + 1
  | .lit _ => 1
  | .nil => 1
  | .ptr d => uptoBulk d + 1
  | .slice elems spare => uptoBulkAll elems + uptoBulkAll spare + 1
  | .agg parts => uptoBulkAll parts + 1
  | .iface _ d => uptoBulk d + 1
  | .map entries => uptoBulkEntries entries + 1
  | .held _ => 1
def uptoBulkAll {H : Type} : List (DataW H) → Nat
  | [] => 0
  | d :: r => uptoBulk d + uptoBulkAll r
def uptoBulkEntries {H : Type} : List (Lit × DataW H) → Nat
  | [] => 0
  | x :: r => uptoBulkEntry x + uptoBulkEntries r
def uptoBulkEntry {H : Type} : Lit × DataW H → Nat
  | (.string bytes, d) => bytes.length + uptoBulk d + 1
  | (_, d) => uptoBulk d + 1
 end
def uptoSmall : (H : Type) → List (DataW H) → Bool := fun _ ds => decide (uptoBulkAll ds ≤ 1048576)
def OpenSpec.upto (s : _root_.Go.ChangeSpec) : _root_.Go.OpenSpec := { _root_.Go.OpenSpec.ofChange s with cond := some uptoSmall }

/-- 'pantrylaw20.PicksTell', WHERE WHAT IT READS IS OF BULK AT MOST 1048576: true; the input reads as it did. -/
def picksTellUptoRow : OpenClaim := { program := "ytbjkcplbilopeaa", sum := "facaadcf23ecb55544d9b544f89ed9f4ce0190875a3946058533f08d7d9bd586", func := "pantry/pantrylaw20.PicksTell", spec := "picksTell", apart := false, narrowed := true }
def PicksTellUptoSaid : Prop := picksTellUptoRow.holds Try.pinned (OpenSpec.upto picksTellSpec)

/-- 'pantrylaw20.PicksFair', WHERE WHAT IT READS IS OF BULK AT MOST 1048576: true; the input reads as it did. -/
def picksFairUptoRow : OpenClaim := { program := "ytbjkcplbilopeaa", sum := "facaadcf23ecb55544d9b544f89ed9f4ce0190875a3946058533f08d7d9bd586", func := "pantry/pantrylaw20.PicksFair", spec := "picksFair", apart := false, narrowed := true }
def PicksFairUptoSaid : Prop := picksFairUptoRow.holds Try.pinned (OpenSpec.upto picksFairSpec)

/-- 'pantrylaw20.PicksCount', WHERE WHAT IT READS IS OF BULK AT MOST 1048576: true; the input reads as it did. -/
def picksCountUptoRow : OpenClaim := { program := "ytbjkcplbilopeaa", sum := "facaadcf23ecb55544d9b544f89ed9f4ce0190875a3946058533f08d7d9bd586", func := "pantry/pantrylaw20.PicksCount", spec := "picksCount", apart := false, narrowed := true }
def PicksCountUptoSaid : Prop := picksCountUptoRow.holds Try.pinned (OpenSpec.upto picksCountSpec)

/-- 'pantrylaw20.PicksRound', WHERE WHAT IT READS IS OF BULK AT MOST 1048576: true; the input reads as it did. -/
def picksRoundUptoRow : OpenClaim := { program := "ytbjkcplbilopeaa", sum := "facaadcf23ecb55544d9b544f89ed9f4ce0190875a3946058533f08d7d9bd586", func := "pantry/pantrylaw20.PicksRound", spec := "picksRound", apart := false, narrowed := true }
def PicksRoundUptoSaid : Prop := picksRoundUptoRow.holds Try.pinned (OpenSpec.upto picksRoundSpec)

/-- 'pantrylaw20.PicksSteps', WHERE WHAT IT READS IS OF BULK AT MOST 1048576: true; the input reads as it did. -/
def picksStepsUptoRow : OpenClaim := { program := "ytbjkcplbilopeaa", sum := "facaadcf23ecb55544d9b544f89ed9f4ce0190875a3946058533f08d7d9bd586", func := "pantry/pantrylaw20.PicksSteps", spec := "picksSteps", apart := false, narrowed := true }
def PicksStepsUptoSaid : Prop := picksStepsUptoRow.holds Try.pinned (OpenSpec.upto picksStepsSpec)

/-- 'pantrylaw20.PicksAround', WHERE WHAT IT READS IS OF BULK AT MOST 1048576: true; the input reads as it did. -/
def picksAroundUptoRow : OpenClaim := { program := "ytbjkcplbilopeaa", sum := "facaadcf23ecb55544d9b544f89ed9f4ce0190875a3946058533f08d7d9bd586", func := "pantry/pantrylaw20.PicksAround", spec := "picksAround", apart := false, narrowed := true }
def PicksAroundUptoSaid : Prop := picksAroundUptoRow.holds Try.pinned (OpenSpec.upto picksAroundSpec)

end Rows
end Go.Proofs.Ytbjkcplbilopeaa

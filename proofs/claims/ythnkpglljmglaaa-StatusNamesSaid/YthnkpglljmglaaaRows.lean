/-
  No cell of these rows narrows 'for every input' (looked for: loops, veiled, ifaces, maps, wideKeys, modest, calm, conditions, laid).
  DERIVED. THE GIVEN ROWS OF THIS SEAT. 5 by the template 'for every input the law returns true; each argument reads behind the call as it read before'; 0 by the template 'total and deterministic' (their statements: YthnkpglljmglaaaTotals.lean).
  GIVEN WITH THE SEED: the statements are not yours to turn. If you find one false, say at which input.
  Laid BY PROGRAM, IN A SANDBOX (cutbox-rows.mjs): the forced cells as the released guide's own fill.sh prints them over the translation a92567a3ac31d80c… (all of the seat's roots in one cut). By AI agents, Wed Nov 11 2026. No macro, syntax, notation, axiom, sorry.
-/
import Derived.Test.YthnkpglljmglaaaChecked
import GoSem.Claim
import GoSem.ClaimJoined
import GoSem.ClaimMapViews
import Derived.JoinedTies
import Derived.KernelRfl
namespace Go.Proofs.Ythnkpglljmglaaa
/- THE CELL 'sum', in the pinned program and in every row, IS THE sha256 OF THE DUMP (.gsa) THAT YthnkpglljmglaaaProg.lean LOADS. Nothing in Lean hashes anything: it is a label: what it is worth is what the hold of that sum in a sandbox is worth. -/
noncomputable def Try.pinned : Pinned := { name := "ythnkpglljmglaaa", sum := "a92567a3ac31d80c5f58921940c2ec41eb88940abb76282726a6e2ab05e2b056", checked := Try.checked }
namespace Rows
def none {H : Type} : Left H := { results := [], args := [] }

/-- 'pantrylaw17.StatusTells': WHATEVER THE INPUT: true; the input reads as it did. -/
def statusTellsSpec : ChangeSpec := { name := "statusTells", fn := fun _ => fun
  | [d1, d2] => { results := [.lit (.bool true)], args := [d1, d2] }
  | _ => none }
def statusTellsRow : OpenClaim := { program := "ythnkpglljmglaaa", sum := "a92567a3ac31d80c5f58921940c2ec41eb88940abb76282726a6e2ab05e2b056", func := "pantry/pantrylaw17.StatusTells", spec := "statusTells", apart := false }
def StatusTellsSaid : Prop := statusTellsRow.holds Try.pinned (OpenSpec.ofChange statusTellsSpec)

/-- ITS FALSE NEIGHBOUR: 'it returns false'. Refute it at one input. -/
def statusTellsWrong : ChangeSpec := { name := "statusTells", fn := fun _ => fun
  | [d1, d2] => { results := [.lit (.bool false)], args := [d1, d2] }
  | _ => none }
def StatusTellsWrongFalsely : Prop := statusTellsRow.holds Try.pinned (OpenSpec.ofChange statusTellsWrong)

/-- 'pantrylaw17.StatusPlays': WHATEVER THE INPUT: true; the input reads as it did. -/
def statusPlaysSpec : ChangeSpec := { name := "statusPlays", fn := fun _ => fun
  | [d] => { results := [.lit (.bool true)], args := [d] }
  | _ => none }
def statusPlaysRow : OpenClaim := { program := "ythnkpglljmglaaa", sum := "a92567a3ac31d80c5f58921940c2ec41eb88940abb76282726a6e2ab05e2b056", func := "pantry/pantrylaw17.StatusPlays", spec := "statusPlays", apart := false }
def StatusPlaysSaid : Prop := statusPlaysRow.holds Try.pinned (OpenSpec.ofChange statusPlaysSpec)

/-- ITS FALSE NEIGHBOUR: 'it returns false'. Refute it at one input. -/
def statusPlaysWrong : ChangeSpec := { name := "statusPlays", fn := fun _ => fun
  | [d] => { results := [.lit (.bool false)], args := [d] }
  | _ => none }
def StatusPlaysWrongFalsely : Prop := statusPlaysRow.holds Try.pinned (OpenSpec.ofChange statusPlaysWrong)

/-- 'pantrylaw17.StatusKeeps': WHATEVER THE INPUT: true; the input reads as it did. -/
def statusKeepsSpec : ChangeSpec := { name := "statusKeeps", fn := fun _ => fun
  | [d] => { results := [.lit (.bool true)], args := [d] }
  | _ => none }
def statusKeepsRow : OpenClaim := { program := "ythnkpglljmglaaa", sum := "a92567a3ac31d80c5f58921940c2ec41eb88940abb76282726a6e2ab05e2b056", func := "pantry/pantrylaw17.StatusKeeps", spec := "statusKeeps", apart := false }
def StatusKeepsSaid : Prop := statusKeepsRow.holds Try.pinned (OpenSpec.ofChange statusKeepsSpec)

/-- ITS FALSE NEIGHBOUR: 'it returns false'. Refute it at one input. -/
def statusKeepsWrong : ChangeSpec := { name := "statusKeeps", fn := fun _ => fun
  | [d] => { results := [.lit (.bool false)], args := [d] }
  | _ => none }
def StatusKeepsWrongFalsely : Prop := statusKeepsRow.holds Try.pinned (OpenSpec.ofChange statusKeepsWrong)

/-- 'pantrylaw17.StatusRounds': WHATEVER THE INPUT: true; the input reads as it did. -/
def statusRoundsSpec : ChangeSpec := { name := "statusRounds", fn := fun _ => fun
  | [d1, d2] => { results := [.lit (.bool true)], args := [d1, d2] }
  | _ => none }
def statusRoundsRow : OpenClaim := { program := "ythnkpglljmglaaa", sum := "a92567a3ac31d80c5f58921940c2ec41eb88940abb76282726a6e2ab05e2b056", func := "pantry/pantrylaw17.StatusRounds", spec := "statusRounds", apart := false }
def StatusRoundsSaid : Prop := statusRoundsRow.holds Try.pinned (OpenSpec.ofChange statusRoundsSpec)

/-- ITS FALSE NEIGHBOUR: 'it returns false'. Refute it at one input. -/
def statusRoundsWrong : ChangeSpec := { name := "statusRounds", fn := fun _ => fun
  | [d1, d2] => { results := [.lit (.bool false)], args := [d1, d2] }
  | _ => none }
def StatusRoundsWrongFalsely : Prop := statusRoundsRow.holds Try.pinned (OpenSpec.ofChange statusRoundsWrong)

/-- 'pantrylaw17.StatusNames': WHATEVER THE INPUT: true; the input reads as it did. -/
def statusNamesSpec : ChangeSpec := { name := "statusNames", fn := fun _ => fun
  | [d] => { results := [.lit (.bool true)], args := [d] }
  | _ => none }
def statusNamesRow : OpenClaim := { program := "ythnkpglljmglaaa", sum := "a92567a3ac31d80c5f58921940c2ec41eb88940abb76282726a6e2ab05e2b056", func := "pantry/pantrylaw17.StatusNames", spec := "statusNames", apart := false }
def StatusNamesSaid : Prop := statusNamesRow.holds Try.pinned (OpenSpec.ofChange statusNamesSpec)

/-- ITS FALSE NEIGHBOUR: 'it returns false'. Refute it at one input. -/
def statusNamesWrong : ChangeSpec := { name := "statusNames", fn := fun _ => fun
  | [d] => { results := [.lit (.bool false)], args := [d] }
  | _ => none }
def StatusNamesWrongFalsely : Prop := statusNamesRow.holds Try.pinned (OpenSpec.ofChange statusNamesWrong)

/- THE SECOND FORM. 'bulk': how many values and letters a reading holds, each counted each time it is reached (what is shared counts as often as it is met; a slice's spare places count too). A statement '..UptoSaid' is the law's where the arguments, and the package variables that the reading takes, are together of bulk at most 1048576: NARROWER than '..Said'. Prove '..Said' where nothing that the law and all that it calls make is longer than what came in: it says more and counts as full. Else prove '..UptoSaid'. A law counts once. -/
mutual
def uptoBulk {H : Type} : DataW H → Nat
  | .lit (.string bytes) => bytes.length + 1
  | .lit _ => 1
  | .nil => 1
  | .ptr d => uptoBulk d + 1
  | .slice elems spare => uptoBulkAll elems + uptoBulkAll spare + 1
  | .agg parts => uptoBulkAll parts + 1
  | .iface _ d => uptoBulk d + 1
  | .map entries => uptoBulkEntries entries + 1
  | .held _ => 1
def uptoBulkAll {H : Type} : List (DataW H) → Nat
  | [] => 0
  | d :: r => uptoBulk d + uptoBulkAll r
def uptoBulkEntries {H : Type} : List (Lit × DataW H) → Nat
  | [] => 0
  | x :: r => uptoBulkEntry x + uptoBulkEntries r
def uptoBulkEntry {H : Type} : Lit × DataW H → Nat
  | (.string bytes, d) => bytes.length + uptoBulk d + 1
  | (_, d) => uptoBulk d + 1
 end
def uptoSmall : (H : Type) → List (DataW H) → Bool := fun _ ds => decide (uptoBulkAll ds ≤ 1048576)
def OpenSpec.upto (s : _root_.Go.ChangeSpec) : _root_.Go.OpenSpec := { _root_.Go.OpenSpec.ofChange s with cond := some uptoSmall }

/-- 'pantrylaw17.StatusTells', WHERE WHAT IT READS IS OF BULK AT MOST 1048576: true; the input reads as it did. -/
def statusTellsUptoRow : OpenClaim := { program := "ythnkpglljmglaaa", sum := "a92567a3ac31d80c5f58921940c2ec41eb88940abb76282726a6e2ab05e2b056", func := "pantry/pantrylaw17.StatusTells", spec := "statusTells", apart := false, narrowed := true }
def StatusTellsUptoSaid : Prop := statusTellsUptoRow.holds Try.pinned (OpenSpec.upto statusTellsSpec)

/-- 'pantrylaw17.StatusPlays', WHERE WHAT IT READS IS OF BULK AT MOST 1048576: true; the input reads as it did. -/
def statusPlaysUptoRow : OpenClaim := { program := "ythnkpglljmglaaa", sum := "a92567a3ac31d80c5f58921940c2ec41eb88940abb76282726a6e2ab05e2b056", func := "pantry/pantrylaw17.StatusPlays", spec := "statusPlays", apart := false, narrowed := true }
def StatusPlaysUptoSaid : Prop := statusPlaysUptoRow.holds Try.pinned (OpenSpec.upto statusPlaysSpec)

/-- 'pantrylaw17.StatusKeeps', WHERE WHAT IT READS IS OF BULK AT MOST 1048576: true; the input reads as it did. -/
def statusKeepsUptoRow : OpenClaim := { program := "ythnkpglljmglaaa", sum := "a92567a3ac31d80c5f58921940c2ec41eb88940abb76282726a6e2ab05e2b056", func := "pantry/pantrylaw17.StatusKeeps", spec := "statusKeeps", apart := false, narrowed := true }
def StatusKeepsUptoSaid : Prop := statusKeepsUptoRow.holds Try.pinned (OpenSpec.upto statusKeepsSpec)

/-- 'pantrylaw17.StatusRounds', WHERE WHAT IT READS IS OF BULK AT MOST 1048576: true; the input reads as it did. -/
def statusRoundsUptoRow : OpenClaim := { program := "ythnkpglljmglaaa", sum := "a92567a3ac31d80c5f58921940c2ec41eb88940abb76282726a6e2ab05e2b056", func := "pantry/pantrylaw17.StatusRounds", spec := "statusRounds", apart := false, narrowed := true }
def StatusRoundsUptoSaid : Prop := statusRoundsUptoRow.holds Try.pinned (OpenSpec.upto statusRoundsSpec)

/-- 'pantrylaw17.StatusNames', WHERE WHAT IT READS IS OF BULK AT MOST 1048576: true; the input reads as it did. -/
def statusNamesUptoRow : OpenClaim := { program := "ythnkpglljmglaaa", sum := "a92567a3ac31d80c5f58921940c2ec41eb88940abb76282726a6e2ab05e2b056", func := "pantry/pantrylaw17.StatusNames", spec := "statusNames", apart := false, narrowed := true }
def StatusNamesUptoSaid : Prop := statusNamesUptoRow.holds Try.pinned (OpenSpec.upto statusNamesSpec)

end Rows
end Go.Proofs.Ythnkpglljmglaaa

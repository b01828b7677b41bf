/- Each of the status functions of the program answers as the document's reference does, at every status number and every bool. No conditions. -/
import Derived.Test.YthnkpglljmglaaaOSx17
namespace Go.Proofs.Ythnkpglljmglaaa.Pure
open Go.RowKit Go.Proofs.Ythnkpglljmglaaa.OS Go.Proofs.YthnkpglljmglaaaW.PrintWords Go.Proofs.YthnkpglljmglaaaW.PrintLast

theorem tells_small : pantrylaw17_small.f 20 = some true := by kernel_rfl

theorem StatusTells : pantrylaw17_StatusTells.Pure := by
  intro a0 a1 _
  refine ⟨20, ?_⟩
  unfold pantrylaw17_StatusTells.f
  rw [tells_small]
  simp only [Option.bind_some, if_true]
  have h : a0 = 0 ∨ a0 = 1 ∨ a0 = 2 ∨ a0 = 3 ∨ (a0 < 0 ∨ a0 > 3) := by omega
  rcases h with rfl | rfl | rfl | rfl | h
  · cases a1 <;> decide +kernel
  · cases a1 <;> decide +kernel
  · cases a1 <;> decide +kernel
  · cases a1 <;> decide +kernel
  · have hk : pantryref17_known.f a0 = some 0 := by
      unfold pantryref17_known.f
      rcases h with h | h
      · rw [if_pos h]
      · rw [if_neg (by omega), if_pos h]
    have n1 : ¬ a0 = 1 := by omega
    have n2 : ¬ a0 = 2 := by omega
    have n3 : ¬ a0 = 3 := by omega
    have b3 : (a0 == 3) = false := beq_eq_false_iff_ne.mpr n3
    simp only [status_Wrote.f, pantryref17_Wrote.f, status_Start.f, pantryref17_Start.f, status_Finish.f, pantryref17_Finish.f, status_Should.f, pantryref17_Should.f, status_Busy.f, pantryref17_Busy.f, status_Name.f, pantryref17_Name.f, hk, Option.bind_some, if_neg n1, if_neg n2, if_neg n3, b3]
    cases a1 <;> decide +kernel

end Go.Proofs.Ythnkpglljmglaaa.Pure

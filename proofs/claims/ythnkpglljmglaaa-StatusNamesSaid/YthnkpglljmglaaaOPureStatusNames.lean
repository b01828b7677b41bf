/- The four statuses have four names, none of them empty, and every other number has the name of Idle, is Required behind a write, and is not busy. No conditions. -/
import Derived.Test.YthnkpglljmglaaaOSx23
namespace Go.Proofs.Ythnkpglljmglaaa.Pure
open Go.RowKit Go.Proofs.Ythnkpglljmglaaa.OS Go.Proofs.YthnkpglljmglaaaW.PrintWords Go.Proofs.YthnkpglljmglaaaW.PrintLast

theorem names_small : pantrylaw17_small.f 20 = some true := by kernel_rfl

theorem names_l1 (k : Nat) (x0 : Int) (x4 x5 : Int) (m n : ByteArray) (hm : status_Name.f x4 = some m) (hn : status_Name.f x5 = some n) (h : x5 < x4) (hne : ¬ m.toList = n.toList) (hz : ¬ (n.size : Int) = 0) :
    pantrylaw17_StatusNames.l1 (k + 1) x0 true x4 x5 = pantrylaw17_StatusNames.l1 k x0 true x4 (wrap64 (x5 + 1)) := by
  simp only [pantrylaw17_StatusNames.l1]
  rw [if_pos h, hm, hn]; simp only [Option.bind_some]; rw [if_neg hne, if_neg hz]
theorem names_l1_end (k : Nat) (x0 : Int) (x4 x5 : Int) (h : ¬ x5 < x4) :
    pantrylaw17_StatusNames.l1 (k + 1) x0 true x4 x5 = pantrylaw17_StatusNames.l0 k x0 true (wrap64 (x4 + 1)) := by
  simp only [pantrylaw17_StatusNames.l1]
  rw [if_neg h]
theorem names_l0 (k : Nat) (x0 : Int) (x4 : Int) (h : x4 < 4) :
    pantrylaw17_StatusNames.l0 (k + 1) x0 true x4 = pantrylaw17_StatusNames.l1 k x0 true x4 0 := by
  simp only [pantrylaw17_StatusNames.l0]
  rw [if_pos h]
theorem names_last (k : Nat) (x0 : Int) : pantrylaw17_StatusNames.l0 (k + 1) x0 true 4 = some true := by
  simp only [pantrylaw17_StatusNames.l0]
  rw [if_neg (by omega), if_pos trivial]
  have gen : x0 < 0 ∨ x0 > 3 → ((status_Name.f x0).bind fun t143 => ((status_Name.f 0).bind fun t144 => (if t143.toList = t144.toList then ((status_Wrote.f x0).bind fun t145 => (if t145 = 1 then ((status_Busy.f x0).bind fun t146 => (some (!t146))) else (some false))) else (some false)))) = some true := by
    intro h
    have n1 : ¬ x0 = 1 := by omega
    have n2 : ¬ x0 = 2 := by omega
    have n3 : ¬ x0 = 3 := by omega
    have b3 : (x0 == 3) = false := beq_eq_false_iff_ne.mpr n3
    simp only [status_Name.f, status_Wrote.f, status_Busy.f, if_neg n1, if_neg n2, if_neg n3, b3, Option.bind_some]
    decide +kernel
  by_cases h0 : x0 ≥ 0
  · rw [if_pos h0]
    by_cases h4 : x0 < 4
    · rw [if_pos h4]
    · rw [if_neg h4]; exact gen (by omega)
  · rw [if_neg h0]; exact gen (by omega)

theorem nm0 : status_Name.f 0 = some ⟨#[105, 100, 108, 101]⟩ := by kernel_rfl
theorem nm1 : status_Name.f 1 = some ⟨#[114, 101, 113, 117, 105, 114, 101, 100]⟩ := by kernel_rfl
theorem nm2 : status_Name.f 2 = some ⟨#[116, 111, 32, 105, 100, 108, 101]⟩ := by kernel_rfl
theorem nm3 : status_Name.f 3 = some ⟨#[116, 111, 32, 114, 101, 113, 117, 105, 114, 101, 100]⟩ := by kernel_rfl

theorem StatusNames : pantrylaw17_StatusNames.Pure := by
  intro a0 _
  refine ⟨20, ?_⟩
  unfold pantrylaw17_StatusNames.f
  rw [names_small]
  simp only [Option.bind_some]
  rw [names_l0 _ _ _ (by omega), names_l1_end _ _ _ _ (by omega)]
  rw [show wrap64 (0 + 1) = 1 from by decide +kernel, names_l0 _ _ _ (by omega)]
  rw [names_l1 _ _ _ _ _ _ nm1 nm0 (by omega) (by decide +kernel) (by decide +kernel)]
  rw [show wrap64 (0 + 1) = 1 from by decide +kernel, names_l1_end _ _ _ _ (by omega)]
  rw [show wrap64 (1 + 1) = 2 from by decide +kernel, names_l0 _ _ _ (by omega)]
  rw [names_l1 _ _ _ _ _ _ nm2 nm0 (by omega) (by decide +kernel) (by decide +kernel)]
  rw [show wrap64 (0 + 1) = 1 from by decide +kernel]
  rw [names_l1 _ _ _ _ _ _ nm2 nm1 (by omega) (by decide +kernel) (by decide +kernel)]
  rw [show wrap64 (1 + 1) = 2 from by decide +kernel, names_l1_end _ _ _ _ (by omega)]
  rw [show wrap64 (2 + 1) = 3 from by decide +kernel, names_l0 _ _ _ (by omega)]
  rw [names_l1 _ _ _ _ _ _ nm3 nm0 (by omega) (by decide +kernel) (by decide +kernel)]
  rw [show wrap64 (0 + 1) = 1 from by decide +kernel]
  rw [names_l1 _ _ _ _ _ _ nm3 nm1 (by omega) (by decide +kernel) (by decide +kernel)]
  rw [show wrap64 (1 + 1) = 2 from by decide +kernel]
  rw [names_l1 _ _ _ _ _ _ nm3 nm2 (by omega) (by decide +kernel) (by decide +kernel)]
  rw [show wrap64 (2 + 1) = 3 from by decide +kernel, names_l1_end _ _ _ _ (by omega)]
  rw [show wrap64 (3 + 1) = 4 from by decide +kernel]
  exact names_last _ _

end Go.Proofs.Ythnkpglljmglaaa.Pure

/- A drain alone comes back to Idle, a drain with writes in between comes to Required, and Should tells so. No conditions. -/
import Derived.Test.YthnkpglljmglaaaOSx22
namespace Go.Proofs.Ythnkpglljmglaaa.Pure
open Go.RowKit Go.Proofs.Ythnkpglljmglaaa.OS Go.Proofs.YthnkpglljmglaaaW.PrintWords Go.Proofs.YthnkpglljmglaaaW.PrintLast

theorem rounds_small : pantrylaw17_small.f 20 = some true := by kernel_rfl
theorem rounds_small_at {k : Nat} (hk : 20 ≤ k) : pantrylaw17_small.f k = some true := at_rounds (fun k => pantrylaw17_small.mono k) hk rounds_small

theorem rounds_end (k : Nat) (x1 x6 : Int) (h6 : x6 = 0 ∨ x6 = 1 ∨ x6 = 2 ∨ x6 = 3) (d : Int) (hd : (x1 > 0 ∧ d = 3) ∨ (¬ x1 > 0 ∧ d = 2)) (x8 : Int) (h8 : ¬ x8 < x1) :
    pantrylaw17_StatusRounds.l0 (k + 3) x1 true x6 d x8 = some true := by
  simp only [pantrylaw17_StatusRounds.l0]
  rw [if_neg h8]
  rcases hd with ⟨hp, rfl⟩ | ⟨hp, rfl⟩
  · rw [show status_Finish.f (k + 2) 3 false = some 1 from rfl]
    simp only [Option.bind_some]
    rw [if_pos hp]
    simp only [pantrylaw17_StatusRounds.j2, decide_eq_true hp]
    rcases h6 with rfl | rfl | rfl | rfl <;> kernel_rfl
  · rw [show status_Finish.f (k + 2) 2 false = some 0 from rfl]
    simp only [Option.bind_some]
    rw [if_neg hp]
    simp only [pantrylaw17_StatusRounds.j2, decide_eq_false hp]
    rcases h6 with rfl | rfl | rfl | rfl <;> kernel_rfl

theorem rounds_loop (x1 x6 : Int) (h6 : x6 = 0 ∨ x6 = 1 ∨ x6 = 2 ∨ x6 = 3) (hx : 0 ≤ x1 ∧ x1 ≤ 100) (n : Nat) : ∀ (k : Nat) (x8 d : Int), 0 ≤ x8 → (x1 - x8).toNat = n → n + 3 ≤ k → (0 < x8 → d = 3) → (x8 = 0 → d = 2) → x8 ≤ x1 →
    pantrylaw17_StatusRounds.l0 k x1 true x6 d x8 = some true := by
  induction n with
  | zero =>
    intro k x8 d h0 hn hk h3 h2 hle
    obtain ⟨k, rfl⟩ : ∃ m, k = m + 3 := ⟨k - 3, by omega⟩
    refine rounds_end k x1 x6 h6 d ?_ x8 (by omega)
    by_cases hp : x1 > 0
    · exact .inl ⟨hp, h3 (by omega)⟩
    · exact .inr ⟨hp, h2 (by omega)⟩
  | succ n ih =>
    intro k x8 d h0 hn hk h3 h2 hle
    obtain ⟨k, rfl⟩ : ∃ m, k = m + 1 := ⟨k - 1, by omega⟩
    simp only [pantrylaw17_StatusRounds.l0]
    rw [if_pos (by omega)]
    have hw : status_Wrote.f d = some 3 := by
      rcases (by omega : x8 = 0 ∨ 0 < x8) with h | h
      · rw [h2 h]; rfl
      · rw [h3 h]; rfl
    rw [hw]; simp only [Option.bind_some]
    have e : wrap64 (x8 + 1) = x8 + 1 := by unfold wrap64; omega
    rw [e]
    exact ih k (x8 + 1) 3 (by omega) (by omega) (by omega) (fun _ => rfl) (fun h => by omega) (by omega)

theorem StatusRounds : pantrylaw17_StatusRounds.Pure := by
  intro a0 a1 _ _
  refine ⟨200, ?_⟩
  unfold pantrylaw17_StatusRounds.f
  rw [rounds_small_at (by omega)]
  simp only [Option.bind_some]
  by_cases h1 : a0 < 0
  · rw [if_pos h1]; rfl
  rw [if_neg h1]
  by_cases h2 : a0 > 3
  · rw [if_pos h2]; rfl
  rw [if_neg h2]
  by_cases h3 : a1 < 0
  · rw [if_pos h3]; rfl
  rw [if_neg h3]
  by_cases h4 : a1 > 100
  · rw [decide_eq_true h4]; rfl
  · rw [decide_eq_false h4]
    simp only [pantrylaw17_StatusRounds.j0]
    rw [if_neg (by decide)]
    simp only [status_Start.f, Option.bind_some]
    exact rounds_loop a1 a0 (by omega) (by omega) _ 199 0 2 (by omega) rfl (by omega) (fun h => by omega) (fun _ => rfl) (by omega)

end Go.Proofs.Ythnkpglljmglaaa.Pure

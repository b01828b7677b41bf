/- A row of steps (at most 1000 of them) has the statuses that the document's reference gives, and is left as it was. No conditions. -/
import Derived.Test.YthnkpglljmglaaaOSx20
import Derived.Test.YthnkpglljmglaaaOPlain
namespace Go.Proofs.Ythnkpglljmglaaa.Pure
open Go.RowKit Go.Proofs.Ythnkpglljmglaaa.OS Go.Proofs.YthnkpglljmglaaaW.PrintWords Go.Proofs.YthnkpglljmglaaaW.PrintLast

theorem plays_small : pantrylaw17_small.f 20 = some true := by kernel_rfl
theorem plays_small_at {k : Nat} (hk : 20 ≤ k) : pantrylaw17_small.f k = some true := at_rounds (fun k => pantrylaw17_small.mono k) hk plays_small

theorem ref_wrote_is {s : Int} (h : 0 ≤ s ∧ s ≤ 3) : pantryref17_Wrote.f s = some (stp s 0) := by
  rcases four h with rfl | rfl | rfl | rfl <;> decide +kernel
theorem ref_finish2_is {s : Int} (h : 0 ≤ s ∧ s ≤ 3) : pantryref17_Finish.f s false = some (stp s 2) := by
  rcases four h with rfl | rfl | rfl | rfl <;> decide +kernel
theorem ref_finish3_is {s : Int} (h : 0 ≤ s ∧ s ≤ 3) : pantryref17_Finish.f s true = some (stp s 3) := by
  rcases four h with rfl | rfl | rfl | rfl <;> decide +kernel

theorem ref_loop (l : List Int) (hl : l.length ≤ 1000) (n : Nat) : ∀ (k : Nat) (acc : List Int) (s i : Int), 0 ≤ i → i ≤ l.length → (l.length : Int) - i = n → n + 1 ≤ k → acc.length + n ≤ 1000 → 0 ≤ s ∧ s ≤ 3 →
    pantryref17_Play.l0 k l s acc i = some (acc ++ pl s (l.drop i.toNat)) := by
  induction n with
  | zero =>
    intro k acc s i h0 h1 hn hk hacc hs
    obtain ⟨k, rfl⟩ : ∃ m, k = m + 1 := ⟨k - 1, by omega⟩
    simp only [pantryref17_Play.l0]
    rw [if_neg (by omega), List.drop_of_length_le (by omega)]
    simp [pl]
  | succ n ih =>
    intro k acc s i h0 h1 hn hk hacc hs
    obtain ⟨k, rfl⟩ : ∃ m, k = m + 1 := ⟨k - 1, by omega⟩
    have hlt : i < (l.length : Int) := by omega
    have hstep : ∀ t, t = stp s (rd l i) → (if acc.length < 17592186044416 then pantryref17_Play.l0 k l t (acc ++ [t]) (wrap64 (i + 1)) else none) = some (acc ++ pl s (l.drop i.toNat)) := by
      intro t ht
      rw [if_pos (by omega), wrap_up h0 (by omega), ih k (acc ++ [t]) t (i + 1) (by omega) (by omega) (by omega) (by omega) (by simp; omega) (ht ▸ stp_is hs _), drop_rd l i h0 hlt]
      simp [pl, ht]
    rw [pantryref17_Play.l0]
    rw [if_pos hlt, if_pos h0]
    by_cases a0 : rd l i = 0
    · rw [if_pos a0, ref_wrote_is hs]; simp only [Option.bind_some]; exact hstep _ (by rw [a0])
    rw [if_neg a0]
    by_cases a1 : rd l i = 1
    · rw [if_pos a1]
      have e : pantryref17_Start.f s = some (stp s (rd l i)) := by rw [a1]; rfl
      rw [e]; simp only [Option.bind_some]; exact hstep _ rfl
    rw [if_neg a1]
    by_cases a2 : rd l i = 2
    · rw [if_pos a2, ref_finish2_is hs]; simp only [Option.bind_some]; exact hstep _ (by rw [a2])
    rw [if_neg a2]
    by_cases a3 : rd l i = 3
    · rw [if_pos a3, ref_finish3_is hs]; simp only [Option.bind_some]; exact hstep _ (by rw [a3])
    rw [if_neg a3]
    refine hstep _ ?_
    unfold stp; rw [if_neg a0, if_neg a1, if_neg a2, if_neg a3]
theorem ref_is (l : List Int) (hl : l.length ≤ 1000) (k : Nat) (hk : 1002 ≤ k) : pantryref17_Play.f k l = some (pl 0 l) := by
  unfold pantryref17_Play.f
  rw [ref_loop l hl l.length k [] 0 0 (by omega) (by omega) (by omega) (by omega) (by simp; omega) (by omega)]
  rfl

theorem ints_loop (a : List Int) (ha : a.length ≤ 1000) (n : Nat) : ∀ (k : Nat) (i : Int), 0 ≤ i → i ≤ a.length → (a.length : Int) - i = n → n + 1 ≤ k → pantryref03_Ints.l0 k a a i = some true := by
  induction n with
  | zero =>
    intro k i h0 h1 hn hk
    obtain ⟨k, rfl⟩ : ∃ m, k = m + 1 := ⟨k - 1, by omega⟩
    simp only [pantryref03_Ints.l0]
    rw [if_neg (by omega)]
  | succ n ih =>
    intro k i h0 h1 hn hk
    obtain ⟨k, rfl⟩ : ∃ m, k = m + 1 := ⟨k - 1, by omega⟩
    rw [pantryref03_Ints.l0]
    rw [if_pos (by omega), if_pos h0, if_pos (by omega), if_pos rfl, wrap_up h0 (by omega)]
    exact ih k (i + 1) (by omega) (by omega) (by omega) (by omega)
theorem ints_self (a : List Int) (ha : a.length ≤ 1000) (k : Nat) (hk : 1001 ≤ k) : pantryref03_Ints.f k a a = some true := by
  unfold pantryref03_Ints.f
  rw [if_pos rfl]
  exact ints_loop a ha a.length k 0 (by omega) (by omega) (by omega) (by omega)

theorem StatusPlays : pantrylaw17_StatusPlays.Pure := by
  intro l _ _ _
  refine ⟨1100, ?_⟩
  unfold pantrylaw17_StatusPlays.f
  rw [plays_small_at (by omega)]
  simp only [Option.bind_some]
  by_cases h : (l.length : Int) > 1000
  · rw [if_pos h]
  have hl : l.length ≤ 1000 := by omega
  rw [if_neg h, if_pos (by simp; omega)]
  simp only [List.nil_append, if_true]
  rw [play_is l hl _ (by omega), ref_is l hl _ (by omega)]
  simp only [Option.bind_some]
  rw [statuses_self _ (by rw [pl_length]; omega) _ (by omega), ints_self l hl _ (by omega)]
  rfl

end Go.Proofs.Ythnkpglljmglaaa.Pure

/- What a row of steps comes to, in plain Lean: the program's Play and the reference's Play both answer 'pl 0 l'. -/
import Derived.Test.YthnkpglljmglaaaOSx8
import Derived.Test.YthnkpglljmglaaaOSx4
namespace Go.Proofs.Ythnkpglljmglaaa.Pure
open Go.RowKit Go.Proofs.Ythnkpglljmglaaa.OS Go.Proofs.YthnkpglljmglaaaW.PrintWords Go.Proofs.YthnkpglljmglaaaW.PrintLast

/-- A step. -/
def stp (s x : Int) : Int :=
  if x = 0 then (if s = 2 then 3 else if s = 3 then 3 else 1) else if x = 1 then 2 else if x = 2 then (if s = 1 then 1 else if s = 3 then 1 else 0) else if x = 3 then 1 else s
/-- A row of steps. -/
def pl (s : Int) : List Int → List Int
  | [] => []
  | x :: r => stp s x :: pl (stp s x) r

theorem stp_is {s : Int} (h : 0 ≤ s ∧ s ≤ 3) (x : Int) : 0 ≤ stp s x ∧ stp s x ≤ 3 := by
  unfold stp
  repeat' split
  all_goals omega
theorem pl_length (l : List Int) : ∀ s, (pl s l).length = l.length := by
  induction l with
  | nil => intro s; rfl
  | cons x r ih => intro s; simp [pl, ih]
theorem drop_rd (l : List Int) (i : Int) (h0 : 0 ≤ i) (h1 : i < (l.length : Int)) : l.drop i.toNat = rd l i :: l.drop (i + 1).toNat := by
  have h : i.toNat < l.length := by omega
  rw [List.drop_eq_getElem_cons h]
  have e : (i + 1).toNat = i.toNat + 1 := by omega
  rw [e]; unfold rd; rw [List.getD_eq_getElem?_getD, List.getElem?_eq_getElem h]; rfl
theorem wrap_up {i : Int} (h0 : 0 ≤ i) (h1 : i < 9223372036854775807) : wrap64 (i + 1) = i + 1 := by unfold wrap64; omega

theorem four {s : Int} (h : 0 ≤ s ∧ s ≤ 3) : s = 0 ∨ s = 1 ∨ s = 2 ∨ s = 3 := by omega
theorem wrote_is {s : Int} (h : 0 ≤ s ∧ s ≤ 3) : status_Wrote.f s = some (stp s 0) := by
  rcases four h with rfl | rfl | rfl | rfl <;> decide +kernel
theorem finish2_is (k : Nat) {s : Int} (h : 0 ≤ s ∧ s ≤ 3) : status_Finish.f (k + 1) s (((2 : Int)) == 3) = some (stp s 2) := by
  rcases four h with rfl | rfl | rfl | rfl <;> rfl
theorem finish3_is (k : Nat) {s : Int} (h : 0 ≤ s ∧ s ≤ 3) : status_Finish.f (k + 1) s (((3 : Int)) == 3) = some (stp s 3) := by
  rcases four h with rfl | rfl | rfl | rfl <;> rfl
theorem play_loop (l : List Int) (hl : l.length ≤ 1000) (n : Nat) : ∀ (k : Nat) (acc : List Int) (s i : Int), 0 ≤ i → i ≤ l.length → (l.length : Int) - i = n → n + 2 ≤ k → acc.length + n ≤ 1000 → 0 ≤ s ∧ s ≤ 3 →
    status_Play.l0 k acc s l l.length i = some (acc ++ pl s (l.drop i.toNat)) := by
  induction n with
  | zero =>
    intro k acc s i h0 h1 hn hk hacc hs
    obtain ⟨k, rfl⟩ : ∃ m, k = m + 1 := ⟨k - 1, by omega⟩
    simp only [status_Play.l0]
    rw [if_neg (by omega), List.drop_of_length_le (by omega)]
    simp [pl]
  | succ n ih =>
    intro k acc s i h0 h1 hn hk hacc hs
    obtain ⟨k, rfl⟩ : ∃ m, k = m + 2 := ⟨k - 2, by omega⟩
    have hlt : i < (l.length : Int) := by omega
    have hstep : ∀ t, t = stp s (rd l i) → (if acc.length < 17592186044416 then status_Play.l0 (k + 1) (acc ++ [t]) t l l.length (wrap64 (i + 1)) else none) = some (acc ++ pl s (l.drop i.toNat)) := by
      intro t ht
      rw [if_pos (by omega), wrap_up h0 (by omega), ih (k + 1) (acc ++ [t]) t (i + 1) (by omega) (by omega) (by omega) (by omega) (by simp; omega) (ht ▸ stp_is hs _), drop_rd l i h0 hlt]
      simp [pl, ht]
    rw [status_Play.l0]
    rw [if_pos hlt, if_pos h0, if_pos hlt]
    by_cases a0 : rd l i = 0
    · rw [if_pos a0, wrote_is hs]; simp only [Option.bind_some]; exact hstep _ (by rw [a0])
    rw [if_neg a0]
    by_cases a1 : rd l i = 1
    · rw [if_pos a1]
      have e : status_Start.f s = some (stp s (rd l i)) := by rw [a1]; rfl
      rw [e]; simp only [Option.bind_some]; exact hstep _ rfl
    rw [if_neg a1]
    by_cases a2 : rd l i = 2
    · have e := finish2_is k hs
      rw [← a2] at e
      rw [if_pos a2, e]; simp only [Option.bind_some]; exact hstep _ rfl
    rw [if_neg a2]
    by_cases a3 : rd l i = 3
    · have e := finish3_is k hs
      rw [if_pos a3, a3, e]; simp only [Option.bind_some]; exact hstep _ (by rw [a3])
    rw [if_neg a3]
    refine hstep _ ?_
    unfold stp; rw [if_neg a0, if_neg a1, if_neg a2, if_neg a3]

theorem play_is (l : List Int) (hl : l.length ≤ 1000) (k : Nat) (hk : 1002 ≤ k) : status_Play.f k l = some (pl 0 l) := by
  unfold status_Play.f
  rw [play_loop l hl l.length k [] 0 0 (by omega) (by omega) (by omega) (by omega) (by simp; omega) (by omega)]
  rfl

theorem statuses_loop (a : List Int) (ha : a.length ≤ 1000) (n : Nat) : ∀ (k : Nat) (i : Int), 0 ≤ i → i ≤ a.length → (a.length : Int) - i = n → n + 1 ≤ k → pantrylaw17_statuses.l0 k a a i = some true := by
  induction n with
  | zero =>
    intro k i h0 h1 hn hk
    obtain ⟨k, rfl⟩ : ∃ m, k = m + 1 := ⟨k - 1, by omega⟩
    simp only [pantrylaw17_statuses.l0]
    rw [if_neg (by omega)]
  | succ n ih =>
    intro k i h0 h1 hn hk
    obtain ⟨k, rfl⟩ : ∃ m, k = m + 1 := ⟨k - 1, by omega⟩
    rw [pantrylaw17_statuses.l0]
    rw [if_pos (by omega), if_pos h0, if_pos (by omega), if_pos rfl, wrap_up h0 (by omega)]
    exact ih k (i + 1) (by omega) (by omega) (by omega) (by omega)
theorem statuses_self (a : List Int) (ha : a.length ≤ 1000) (k : Nat) (hk : 1001 ≤ k) : pantrylaw17_statuses.f k a a = some true := by
  unfold pantrylaw17_statuses.f
  rw [if_pos rfl]
  exact statuses_loop a ha a.length k 0 (by omega) (by omega) (by omega) (by omega)

end Go.Proofs.Ythnkpglljmglaaa.Pure

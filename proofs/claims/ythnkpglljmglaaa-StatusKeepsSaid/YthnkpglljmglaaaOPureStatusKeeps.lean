/- A write behind a Start is never lost: behind it the status is Required or ToRequired, and behind the Finish it is Required; a drain begins at a Start alone (rows of at most 1000 steps). No conditions. -/
import Derived.Test.YthnkpglljmglaaaOSx21
import Derived.Test.YthnkpglljmglaaaOPlain
namespace Go.Proofs.Ythnkpglljmglaaa.Pure
open Go.RowKit Go.Proofs.Ythnkpglljmglaaa.OS Go.Proofs.YthnkpglljmglaaaW.PrintWords Go.Proofs.YthnkpglljmglaaaW.PrintLast

theorem keeps_small : pantrylaw17_small.f 20 = some true := by kernel_rfl
theorem keeps_small_at {k : Nat} (hk : 20 ≤ k) : pantrylaw17_small.f k = some true := at_rounds (fun k => pantrylaw17_small.mono k) hk keeps_small

/-- The status ahead of step i. -/
def ahead (out : List Int) (i : Int) : Int := if i = 0 then 0 else rd out (i - 1)

theorem pl_at (l : List Int) : ∀ (s : Int) (i : Nat), i < l.length → (pl s l).getD i 0 = stp (if i = 0 then s else (pl s l).getD (i - 1) 0) (l.getD i 0) := by
  induction l with
  | nil => intro s i h; exact absurd h (by simp)
  | cons x r ih =>
    intro s i h
    cases i with
    | zero => rfl
    | succ i =>
      have h' : i < r.length := by simpa using h
      have e := ih (stp s x) i h'
      cases i with
      | zero => simpa [pl] using e
      | succ i => simpa [pl] using e
theorem pl_step (l : List Int) (i : Int) (h0 : 0 ≤ i) (h1 : i < (l.length : Int)) : rd (pl 0 l) i = stp (ahead (pl 0 l) i) (rd l i) := by
  have h := pl_at l 0 i.toNat (by omega)
  unfold rd ahead
  rw [h]
  by_cases e : i = 0
  · subst e; rfl
  · rw [if_neg (by omega), if_neg e]
    unfold rd
    rw [show (i - 1).toNat = i.toNat - 1 from by omega]
theorem pl_is (l : List Int) : ∀ (s : Int), 0 ≤ s ∧ s ≤ 3 → ∀ i : Nat, 0 ≤ (pl s l).getD i 0 ∧ (pl s l).getD i 0 ≤ 3 := by
  induction l with
  | nil => intro s _ i; simp [pl]
  | cons x r ih =>
    intro s hs i
    cases i with
    | zero => exact stp_is hs x
    | succ i => simpa [pl] using ih (stp s x) (stp_is hs x) i
theorem ahead_is (l : List Int) (i : Int) : 0 ≤ ahead (pl 0 l) i ∧ ahead (pl 0 l) i ≤ 3 := by
  unfold ahead
  split
  · omega
  · exact pl_is l 0 (by omega) _

set_option maxHeartbeats 2000000 in
theorem keeps_round (k : Nat) (l out : List Int) (wr : Bool) (i : Int) (h0 : 0 ≤ i) (h1 : i < (l.length : Int)) (h1' : i < (out.length : Int)) (hb : i < 5000) (a s t : Int) (ha : rd l i = a) (ht : rd out i = t) (hs : ahead out i = s)
    (hst : t = stp s a) (h4 : 0 ≤ s ∧ s ≤ 3) (hwr : wr = true → s = 1 ∨ s = 3) :
    pantrylaw17_StatusKeeps.l0 (k + 3) l true out wr i = pantrylaw17_StatusKeeps.l0 k l true out (if a = 0 then true else if a = 1 then false else wr) (i + 1) := by
  have e1 : wrap64 (i + 1) = i + 1 := by unfold wrap64; omega
  have e2 : wrap64 (i - 1) = i - 1 := by unfold wrap64; omega
  have hp : i = 0 → s = 0 := by intro e; unfold ahead at hs; rw [if_pos e] at hs; exact hs.symm
  have hq : ¬ i = 0 → rd out (i - 1) = s := by intro e; unfold ahead at hs; rw [if_neg e] at hs; exact hs
  have hi : ¬ i = 0 → i - 1 < (out.length : Int) := by omega
  have hi0 : ¬ i = 0 → 0 ≤ i - 1 := by omega
  rw [pantrylaw17_StatusKeeps.l0]
  simp only [pantrylaw17_StatusKeeps.j1, pantrylaw17_StatusKeeps.j2, e1, e2, ha, ht, if_pos h0, if_pos h1, if_pos h1', status_Busy.f]
  clear ha ht hs e1 e2
  subst hst
  have hc : a = 0 ∨ a = 1 ∨ a = 2 ∨ (¬ a = 0 ∧ ¬ a = 1 ∧ ¬ a = 2) := by omega
  by_cases ei : i = 0
  · have := hp ei
    subst this
    rcases hc with rfl | rfl | rfl | ⟨n0, n1, n2⟩
    · simp [stp]
    · simp [stp]
    · cases wr with
      | true => exact absurd (hwr rfl) (by omega)
      | false => simp [stp]
    · cases wr with
      | true => exact absurd (hwr rfl) (by omega)
      | false =>
        by_cases n3 : a = 3
        · subst n3; simp [stp]
        · simp [stp, n0, n1, n2, n3]
  · have q1 := hq ei
    have q2 := hi ei
    have q3 := hi0 ei
    simp only [if_neg ei, q1, if_pos q2, if_pos q3]
    clear hq hi hi0 hp q1 q2 q3
    rcases four h4 with rfl | rfl | rfl | rfl <;> rcases hc with rfl | rfl | rfl | ⟨n0, n1, n2⟩
    all_goals cases wr
    all_goals first
      | (exact absurd (hwr rfl) (by omega))
      | (simp [stp]; done)
      | (by_cases n3 : a = 3
         · subst n3; simp [stp]
         · simp [stp, n0, n1, n2, n3])

theorem keeps_wrote (a s : Int) (h4 : 0 ≤ s ∧ s ≤ 3) (wr : Bool) (hwr : wr = true → s = 1 ∨ s = 3) : (if a = 0 then true else if a = 1 then false else wr) = true → stp s a = 1 ∨ stp s a = 3 := by
  have hc : a = 0 ∨ a = 1 ∨ a = 2 ∨ (¬ a = 0 ∧ ¬ a = 1 ∧ ¬ a = 2) := by omega
  rcases hc with rfl | rfl | rfl | ⟨n0, n1, n2⟩
  · intro _; rcases four h4 with rfl | rfl | rfl | rfl <;> simp [stp]
  · intro h; exact absurd h (by simp)
  · intro h
    have := hwr (by simpa using h)
    rcases this with rfl | rfl <;> simp [stp]
  · intro h
    rw [if_neg n0, if_neg n1] at h
    have := hwr h
    by_cases n3 : a = 3
    · subst n3; left; simp [stp]
    · rcases this with rfl | rfl <;> simp [stp, n0, n1, n2, n3]

theorem keeps_loop (l : List Int) (hl : l.length ≤ 1000) (n : Nat) : ∀ (k : Nat) (wr : Bool) (i : Int), 0 ≤ i → i ≤ l.length → (l.length : Int) - i = n → 3 * n + 1 ≤ k → (wr = true → ahead (pl 0 l) i = 1 ∨ ahead (pl 0 l) i = 3) →
    pantrylaw17_StatusKeeps.l0 k l true (pl 0 l) wr i = some true := by
  induction n with
  | zero =>
    intro k wr i h0 h1 hn hk hwr
    obtain ⟨k, rfl⟩ : ∃ m, k = m + 1 := ⟨k - 1, by omega⟩
    rw [pantrylaw17_StatusKeeps.l0]
    rw [if_neg (by omega)]
  | succ n ih =>
    intro k wr i h0 h1 hn hk hwr
    obtain ⟨k, rfl⟩ : ∃ m, k = m + 3 := ⟨k - 3, by omega⟩
    have hlt : i < (l.length : Int) := by omega
    rw [keeps_round k l (pl 0 l) wr i h0 hlt (by rw [pl_length]; exact hlt) (by omega) _ _ _ rfl rfl rfl (pl_step l i h0 hlt) (ahead_is l i) hwr]
    refine ih k _ (i + 1) (by omega) (by omega) (by omega) (by omega) ?_
    have e : ahead (pl 0 l) (i + 1) = stp (ahead (pl 0 l) i) (rd l i) := by
      rw [← pl_step l i h0 hlt]
      rw [ahead, if_neg (by omega)]
      congr 1
      omega
    rw [e]
    exact keeps_wrote _ _ (ahead_is l i) wr hwr

theorem StatusKeeps : pantrylaw17_StatusKeeps.Pure := by
  intro l _ _ _
  refine ⟨4000, ?_⟩
  unfold pantrylaw17_StatusKeeps.f
  rw [keeps_small_at (by omega)]
  simp only [Option.bind_some]
  by_cases h : (l.length : Int) > 1000
  · rw [if_pos h]
  have hl : l.length ≤ 1000 := by omega
  rw [if_neg h, play_is l hl _ (by omega)]
  simp only [Option.bind_some]
  rw [if_pos (by rw [pl_length])]
  exact keeps_loop l hl l.length 4000 false 0 (by omega) (by omega) (by omega) (by omega) (fun h => by cases h)

end Go.Proofs.Ythnkpglljmglaaa.Pure

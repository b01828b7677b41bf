/- Plain laws of the sum: over a row in two parts. No conditions beyond those typed. -/
import Derived.Test.YtahbigcjlindeaaDoorTotal
namespace Go.Proofs.YtahbigcjlindeaaDoor.W

theorem tot_congr {G H : Nat → Int} : ∀ (f i : Nat) (acc : Int), (∀ j, i ≤ j → j < i + f → G j = H j) → tot G f i acc = tot H f i acc := by
  intro f
  induction f with
  | zero => intro i acc _; rfl
  | succ f ih =>
    intro i acc h
    have hi := h i (by omega) (by omega)
    simp only [tot, hi]
    rw [ih (i + 1) (acc + H i) (fun j h1 h2 => h j (by omega) (by omega))]
theorem tot_split {G : Nat → Int} (g : Nat) : ∀ (f i : Nat) (acc : Int), ((tot G f i acc).2.1 = 0 → tot G (f + g) i acc = tot G g (i + f) (tot G f i acc).1) ∧ ((tot G f i acc).2.1 ≠ 0 → tot G (f + g) i acc = tot G f i acc) := by
  intro f
  induction f with
  | zero => intro i acc; exact ⟨fun _ => by simp [tot], fun h => absurd rfl h⟩
  | succ f ih =>
    intro i acc
    rw [show f + 1 + g = (f + g) + 1 by omega]
    simp only [tot]
    by_cases h1 : G i < 0
    · simp [if_pos h1]
    · simp only [if_neg h1]
      by_cases h2 : 4611686018427387903 - acc < G i
      · simp [if_pos h2]
      · simp only [if_neg h2]
        rw [show i + (f + 1) = i + 1 + f by omega]
        exact ih (i + 1) _
theorem tot_shift {G : Nat → Int} (n : Nat) : ∀ (f i : Nat) (acc : Int), (tot G f (i + n) acc).2.1 = (tot (fun j => G (j + n)) f i acc).2.1 ∧ (tot G f (i + n) acc).1 = (tot (fun j => G (j + n)) f i acc).1 := by
  intro f
  induction f with
  | zero => intro i acc; exact ⟨rfl, rfl⟩
  | succ f ih =>
    intro i acc
    simp only [tot]
    by_cases h1 : G (i + n) < 0
    · simp [if_pos h1]
    · rw [if_neg h1, if_neg h1]
      by_cases h2 : 4611686018427387903 - acc < G (i + n)
      · simp [if_pos h2]
      · rw [if_neg h2, if_neg h2]
        have := ih (i + 1) (acc + G (i + n))
        rw [show i + 1 + n = i + n + 1 by omega] at this
        exact this
theorem tot_bd {G : Nat → Int} : ∀ (f i : Nat) (acc : Int), 0 ≤ acc → acc ≤ 4611686018427387903 → 0 ≤ (tot G f i acc).1 ∧ (tot G f i acc).1 ≤ 4611686018427387903 ∧ ((tot G f i acc).2.1 = 0 ∨ (tot G f i acc).2.1 = 1 ∨ (tot G f i acc).2.1 = 2) := by
  intro f
  induction f with
  | zero => intro i acc h0 h1; exact ⟨h0, h1, .inl rfl⟩
  | succ f ih =>
    intro i acc h0 h1
    simp only [tot]
    by_cases h2 : G i < 0
    · simp [if_pos h2]
    · rw [if_neg h2]
      by_cases h3 : 4611686018427387903 - acc < G i
      · simp [if_pos h3]
      · rw [if_neg h3]
        exact ih _ _ (by omega) (by omega)
/-- From a greater beginning. -/
theorem tot_more {G : Nat → Int} (d : Int) (hd : 0 ≤ d) : ∀ (f i : Nat) (acc : Int), 0 ≤ acc → acc + d ≤ 4611686018427387903 →
    ((tot G f i acc).2.1 ≠ 0 → (tot G f i (acc + d)).2.1 ≠ 0) ∧ ((tot G f i acc).2.1 = 0 → ((tot G f i acc).1 + d ≤ 4611686018427387903 → (tot G f i (acc + d)).2.1 = 0 ∧ (tot G f i (acc + d)).1 = (tot G f i acc).1 + d) ∧ (4611686018427387903 < (tot G f i acc).1 + d → (tot G f i (acc + d)).2.1 = 2)) := by
  intro f
  induction f with
  | zero => intro i acc h0 h1; exact ⟨fun h => absurd rfl h, fun _ => ⟨fun _ => ⟨rfl, rfl⟩, fun h => by simp only [tot] at h; omega⟩⟩
  | succ f ih =>
    intro i acc h0 h1
    simp only [tot]
    by_cases h2 : G i < 0
    · rw [if_pos h2, if_pos h2]
      exact ⟨fun _ h => (by cases h), fun h => (by cases h)⟩
    · rw [if_neg h2, if_neg h2]
      by_cases h3 : 4611686018427387903 - acc < G i
      · rw [if_pos h3, if_pos (by omega)]
        exact ⟨fun _ h => (by cases h), fun h => (by cases h)⟩
      · rw [if_neg h3]
        by_cases h4 : 4611686018427387903 - (acc + d) < G i
        · rw [if_pos h4]
          refine ⟨fun _ h => (by cases h), fun h => ⟨fun h5 => ?_, fun _ => rfl⟩⟩
          have := tot_ge (G := G) f (i + 1) (acc + G i) (by omega) h
          omega
        · rw [if_neg h4, show acc + d + G i = acc + G i + d by omega]
          exact ih (i + 1) (acc + G i) (by omega) (by omega)
where
  tot_ge {G : Nat → Int} : ∀ (f i : Nat) (acc : Int), 0 ≤ acc → (tot G f i acc).2.1 = 0 → acc ≤ (tot G f i acc).1 := by
    intro f
    induction f with
    | zero => intro i acc _ _; exact Int.le_refl _
    | succ f ih =>
      intro i acc h0 h
      simp only [tot] at h ⊢
      by_cases h2 : G i < 0
      · rw [if_pos h2] at h; cases h
      · rw [if_neg h2] at h ⊢
        by_cases h3 : 4611686018427387903 - acc < G i
        · rw [if_pos h3] at h; cases h
        · rw [if_neg h3] at h ⊢
          have := ih (i + 1) (acc + G i) (by omega) h
          omega
/-- The row of both: the sums. -/
theorem tot_both {G H K : Nat → Int} {n m : Nat} (h1 : ∀ j, j < n → K j = G j) (h2 : ∀ j, j < m → K (j + n) = H j) :
    ((tot G n 0 0).2.1 ≠ 0 ∨ (tot H m 0 0).2.1 ≠ 0 → (tot K (n + m) 0 0).2.1 ≠ 0) ∧
    ((tot G n 0 0).2.1 = 0 → (tot H m 0 0).2.1 = 0 → (4611686018427387903 - (tot H m 0 0).1 < (tot G n 0 0).1 → (tot K (n + m) 0 0).2.1 = 2) ∧ ((tot G n 0 0).1 ≤ 4611686018427387903 - (tot H m 0 0).1 → (tot K (n + m) 0 0).2.1 = 0 ∧ (tot K (n + m) 0 0).1 = (tot G n 0 0).1 + (tot H m 0 0).1)) := by
  have e1 : tot K n 0 0 = tot G n 0 0 := tot_congr n 0 0 (fun j _ h => h1 j (by omega))
  have sh := fun acc => tot_shift (G := K) n m 0 acc
  have e2 : ∀ acc, tot (fun j => K (j + n)) m 0 acc = tot H m 0 acc := fun acc => tot_congr m 0 acc (fun j _ h => h2 j (by omega))
  have sp := tot_split (G := K) m n 0 0
  rw [e1, Nat.zero_add] at sp
  have bd := tot_bd (G := G) n 0 0 (by omega) (by omega)
  generalize hx : (tot G n 0 0).1 = x at *
  have mo := tot_more (G := H) x (by omega) m 0 0 (by omega) (by omega)
  have sx := sh x
  rw [Nat.zero_add, e2] at sx
  rw [Int.zero_add] at mo
  by_cases hg : (tot G n 0 0).2.1 = 0
  · rw [sp.1 hg]
    refine ⟨fun h => ?_, fun _ hh => ⟨fun h => ?_, fun h => ?_⟩⟩
    · rcases h with h | h
      · exact absurd hg h
      · rw [sx.1]; exact mo.1 h
    · rw [sx.1]; exact (mo.2 hh).2 (by omega)
    · rw [sx.1, sx.2]
      obtain ⟨a, b⟩ := (mo.2 hh).1 (by omega)
      exact ⟨a, by omega⟩
  · rw [sp.2 hg]
    exact ⟨fun _ => hg, fun h => absurd h hg⟩
end Go.Proofs.YtahbigcjlindeaaDoor.W

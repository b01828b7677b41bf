/- Plain facts on rows of picks: the longest row without some thread is shorter than a window just if each window holds each thread. No program in sight. -/
import Derived.Test.YtbjkcplbilopeaaOSx5
namespace Go.Proofs.Ytbjkcplbilopeaa.Pure
open Go.RowKit Go.Proofs.Ytbjkcplbilopeaa.OS Go.Proofs.YtbjkcplbilopeaaW.PrintWords Go.Proofs.YtbjkcplbilopeaaW.PrintLast Go.Proofs.YtbjkcplbilopeaaW.PrintMore

theorem wrap_up {i : Int} (h0 : 0 ≤ i) (h1 : i < 9223372036854775807) : wrap64 (i + 1) = i + 1 := by unfold wrap64; omega
theorem wrap_in {i : Int} (h0 : -9223372036854775808 ≤ i) (h1 : i ≤ 9223372036854775807) : wrap64 i = i := by unfold wrap64; omega

/-- Each window of W picks holds each thread. -/
def Covers (l : List Int) (th : Int) (W : Int) : Prop :=
  ∀ s : Int, 0 ≤ s → s + W ≤ (l.length : Int) → ∀ t : Int, 0 ≤ t → t < th → ∃ i : Int, s ≤ i ∧ i < s + W ∧ rd l i = t

theorem lastK_none (l : List Int) (t : Int) : ∀ k : Nat, lastK l t k = -1 ↔ ∀ i : Int, 0 ≤ i → i < (k : Int) → rd l i ≠ t := by
  intro k
  induction k with
  | zero => simp only [lastK, true_iff]; intro i h0 h1; omega
  | succ k ih =>
    unfold lastK
    by_cases e : rd l (k : Int) = t
    · rw [if_pos e]
      constructor
      · intro h; omega
      · intro h; exact absurd e (h k (by omega) (by omega))
    · rw [if_neg e, ih]
      constructor
      · intro h i h0 h1
        by_cases ei : i = (k : Int)
        · subst ei; exact e
        · exact h i h0 (by omega)
      · intro h i h0 h1; exact h i h0 (by omega)
theorem lastK_some (l : List Int) (t : Int) : ∀ k : Nat, lastK l t k ≠ -1 → rd l (lastK l t k) = t ∧ 0 ≤ lastK l t k ∧ ∀ i : Int, lastK l t k < i → i < (k : Int) → rd l i ≠ t := by
  intro k
  induction k with
  | zero => intro h; exact absurd rfl h
  | succ k ih =>
    unfold lastK
    by_cases e : rd l (k : Int) = t
    · rw [if_pos e]; intro _; exact ⟨e, by omega, fun i h0 h1 => by omega⟩
    · rw [if_neg e]
      intro h
      obtain ⟨h1, h2, h3⟩ := ih h
      refine ⟨h1, h2, fun i i0 i1 => ?_⟩
      by_cases ei : i = (k : Int)
      · subst ei; exact e
      · exact h3 i i0 (by omega)
/-- Behind the last place there is none. -/
theorem lastK_behind (l : List Int) (t : Int) (k : Nat) (i : Int) (h0 : 0 ≤ i) (h : lastK l t k < i) (hi : i < (k : Int)) : rd l i ≠ t := by
  by_cases e : lastK l t k = -1
  · exact (lastK_none l t k).1 e i h0 hi
  · exact (lastK_some l t k e).2.2 i h hi
/-- If there is none from s on, the last place is ahead of s. -/
theorem lastK_ahead (l : List Int) (t : Int) (k : Nat) (s : Int) (hs : 0 ≤ s) (h : ∀ i : Int, s ≤ i → i < (k : Int) → rd l i ≠ t) : lastK l t k < s := by
  by_cases e : lastK l t k = -1
  · omega
  · obtain ⟨h1, h2, _⟩ := lastK_some l t k e
    have := (lastK_is l t k).2
    apply Classical.byContradiction
    intro hn
    exact h (lastK l t k) (by omega) this h1

theorem mostK_lt (l : List Int) (th W : Int) : ∀ k : Nat, mostK l th k < W ↔ 0 < W ∧ ∀ i : Nat, i < k → longIn th (rd l (i : Int)) = true → (i : Int) - lastK l (rd l (i : Int)) i - 1 < W := by
  intro k
  induction k with
  | zero => simp [mostK]
  | succ k ih =>
    unfold mostK
    by_cases e : longIn th (rd l (k : Int)) = true
    · rw [if_pos e]
      have hx : mx (mostK l th k) ((k : Int) - lastK l (rd l (k : Int)) k - 1) < W ↔ mostK l th k < W ∧ (k : Int) - lastK l (rd l (k : Int)) k - 1 < W := by unfold mx; split <;> omega
      rw [hx, ih]
      constructor
      · rintro ⟨⟨h0, h1⟩, h2⟩
        refine ⟨h0, fun i hi hin => ?_⟩
        by_cases ei : i = k
        · subst ei; exact h2
        · exact h1 i (by omega) hin
      · rintro ⟨h0, h1⟩
        exact ⟨⟨h0, fun i hi hin => h1 i (by omega) hin⟩, h1 k (by omega) e⟩
    · rw [if_neg e, ih]
      constructor
      · rintro ⟨h0, h1⟩
        refine ⟨h0, fun i hi hin => ?_⟩
        by_cases ei : i = k
        · subst ei; exact absurd hin e
        · exact h1 i (by omega) hin
      · rintro ⟨h0, h1⟩
        exact ⟨h0, fun i hi hin => h1 i (by omega) hin⟩
theorem tailK_lt (l : List Int) (m W : Int) : ∀ n : Nat, tailK l m n < W ↔ m < W ∧ ∀ t : Nat, t < n → lastK l (t : Int) l.length ≠ -1 → (l.length : Int) - 1 - lastK l (t : Int) l.length < W := by
  intro n
  induction n with
  | zero => simp [tailK]
  | succ n ih =>
    unfold tailK
    by_cases e : lastK l (n : Int) l.length = -1
    · rw [if_pos e, ih]
      constructor
      · rintro ⟨h0, h1⟩
        refine ⟨h0, fun t ht hne => ?_⟩
        by_cases et : t = n
        · subst et; exact absurd e hne
        · exact h1 t (by omega) hne
      · rintro ⟨h0, h1⟩; exact ⟨h0, fun t ht hne => h1 t (by omega) hne⟩
    · rw [if_neg e]
      have hx : mx (tailK l m n) ((l.length : Int) - 1 - lastK l (n : Int) l.length) < W ↔ tailK l m n < W ∧ (l.length : Int) - 1 - lastK l (n : Int) l.length < W := by unfold mx; split <;> omega
      rw [hx, ih]
      constructor
      · rintro ⟨⟨h0, h1⟩, h2⟩
        refine ⟨h0, fun t ht hne => ?_⟩
        by_cases et : t = n
        · subst et; exact h2
        · exact h1 t (by omega) hne
      · rintro ⟨h0, h1⟩
        exact ⟨⟨h0, fun t ht hne => h1 t (by omega) hne⟩, h1 n (by omega) e⟩

/-- How many below n. -/
def cntP (p : Nat → Bool) : Nat → Nat
  | 0 => 0
  | n + 1 => cntP p n + if p n = true then 1 else 0
theorem cntP_le (p : Nat → Bool) : ∀ n, cntP p n ≤ n := by
  intro n
  induction n with
  | zero => simp [cntP]
  | succ n ih => unfold cntP; split <;> omega
theorem cntP_all (p : Nat → Bool) : ∀ n, cntP p n = n ↔ ∀ t, t < n → p t = true := by
  intro n
  induction n with
  | zero => simp [cntP]
  | succ n ih =>
    have := cntP_le p n
    unfold cntP
    by_cases e : p n = true
    · rw [if_pos e]
      constructor
      · intro h t ht
        by_cases et : t = n
        · subst et; exact e
        · exact ih.1 (by omega) t (by omega)
      · intro h; rw [ih.2 (fun t ht => h t (by omega))]
    · rw [if_neg e]
      constructor
      · intro h; omega
      · intro h; exact absurd (h n (by omega)) e
theorem cntP_same (p q : Nat → Bool) : ∀ n, (∀ t, t < n → p t = q t) → cntP p n = cntP q n := by
  intro n
  induction n with
  | zero => intro _; rfl
  | succ n ih => intro h; unfold cntP; rw [ih (fun t ht => h t (by omega)), h n (by omega)]
theorem cntP_one (p q : Nat → Bool) (t0 : Nat) (h0 : p t0 = false) (h1 : q t0 = true) (hq : ∀ t, t ≠ t0 → q t = p t) : ∀ n, t0 < n → cntP q n = cntP p n + 1 := by
  intro n
  induction n with
  | zero => intro h; omega
  | succ n ih =>
    intro h
    unfold cntP
    by_cases e : t0 = n
    · subst e
      rw [cntP_same q p t0 (fun t ht => hq t (by omega)), h0, h1]; simp
    · rw [ih (by omega), hq n (fun h => e h.symm)]; omega
theorem cntK_is (l : List Int) (th : Int) : ∀ k : Nat, cntK l th k = cntP (fun t => !(lastK l (t : Int) k == -1)) th.toNat := by
  intro k
  induction k with
  | zero =>
    have : ∀ n, cntP (fun t : Nat => !(lastK l (t : Int) 0 == -1)) n = 0 := by
      intro n; induction n with
      | zero => rfl
      | succ n ih => unfold cntP; rw [ih]; simp [lastK]
    rw [this]; rfl
  | succ k ih =>
    unfold cntK
    by_cases e : longIn th (rd l (k : Int)) = true ∧ lastK l (rd l (k : Int)) k = -1
    · rw [if_pos e, ih]
      obtain ⟨e1, e2⟩ := e
      obtain ⟨i0, i1⟩ := longIn_iff.1 e1
      have et : ((rd l (k : Int)).toNat : Int) = rd l (k : Int) := Int.toNat_of_nonneg i0
      refine (cntP_one _ _ (rd l (k : Int)).toNat ?_ ?_ ?_ _ (by omega)).symm
      · simp only [et, e2]; rfl
      · simp only [et, lastK, if_true]; simp
      · intro t ht
        have : ¬ rd l (k : Int) = (t : Int) := by omega
        simp only [lastK, if_neg this]
    · rw [if_neg e, ih]
      refine cntP_same _ _ _ fun t ht => ?_
      by_cases et : rd l (k : Int) = (t : Int)
      · have h1 : longIn th (rd l (k : Int)) = true := longIn_iff.2 ⟨by omega, by omega⟩
        have h2 : ¬ lastK l (t : Int) k = -1 := by intro h; exact e ⟨h1, by rw [et]; exact h⟩
        have h3 : ¬ ((k : Int) = -1) := by omega
        have b2 : (lastK l (t : Int) k == -1) = false := beq_eq_false_iff_ne.mpr h2
        have b3 : ((k : Int) == -1) = false := beq_eq_false_iff_ne.mpr h3
        simp only [lastK, et, if_true, b2, b3]
      · simp [lastK, et]
theorem cntK_full (l : List Int) (th : Int) (h : 1 ≤ th) : (cntK l th l.length : Int) < th ↔ ¬ ∀ t : Int, 0 ≤ t → t < th → lastK l t l.length ≠ -1 := by
  have h1 := cntP_le (fun t => !(lastK l (t : Int) l.length == -1)) th.toNat
  have h2 := cntP_all (fun t => !(lastK l (t : Int) l.length == -1)) th.toNat
  rw [cntK_is]
  constructor
  · intro hlt hall
    have := h2.2 (fun t ht => by simpa using hall (t : Int) (by omega) (by omega))
    omega
  · intro hn
    apply Classical.byContradiction
    intro hc
    refine hn fun t t0 t1 => ?_
    have := h2.1 (by omega) t.toNat (by omega)
    rw [Int.toNat_of_nonneg t0] at this
    simpa using this

theorem longV_is (l : List Int) (th : Int) : 0 ≤ longV l th ∧ longV l th ≤ (l.length : Int) := by
  unfold longV
  split
  · omega
  · have := mostK_is l th l.length
    exact tailK_is l _ this _

/-- The longest row in which some thread is not is shorter than a window just if each window holds each thread. -/
theorem longV_lt (l : List Int) (th W : Int) (hth : 1 ≤ th) (h1 : 1 ≤ W) (h2 : W ≤ (l.length : Int)) : longV l th < W ↔ Covers l th W := by
  unfold longV
  by_cases hc : (cntK l th l.length : Int) < th
  · rw [if_pos hc]
    constructor
    · intro h; omega
    · intro h
      refine absurd (fun t t0 t1 e => ?_) ((cntK_full l th hth).1 hc)
      obtain ⟨i, i0, i1, hi⟩ := h 0 (by omega) (by omega) t t0 t1
      exact (lastK_none l t l.length).1 e i (by omega) (by omega) hi
  · rw [if_neg hc, tailK_lt, mostK_lt]
    have hall : ∀ t : Int, 0 ≤ t → t < th → lastK l t l.length ≠ -1 := by
      apply Classical.byContradiction
      intro hn; exact hc ((cntK_full l th hth).2 hn)
    constructor
    · rintro ⟨⟨_, hm⟩, ht⟩ s s0 s1 t t0 t1
      apply Classical.byContradiction
      intro hn
      have hno : ∀ i : Int, s ≤ i → i < s + W → rd l i ≠ t := fun i i0 i1 e => hn ⟨i, i0, i1, e⟩
      -- the first place behind the window, if there is one
      by_cases hx : ∃ j : Nat, s + W ≤ (j : Int) ∧ j < l.length ∧ rd l (j : Int) = t ∧ ∀ i : Int, s + W ≤ i → i < (j : Int) → rd l i ≠ t
      · obtain ⟨j, j0, j1, ej, hj⟩ := hx
        have hlast : lastK l t j < s := lastK_ahead l t j s s0 (fun i i0 i1 => by
          by_cases hiw : i < s + W
          · exact hno i i0 hiw
          · exact hj i (by omega) i1)
        have := hm j j1 (longIn_iff.2 ⟨by omega, by omega⟩)
        rw [ej] at this
        omega
      · have hnone : ∀ i : Int, s ≤ i → i < (l.length : Int) → rd l i ≠ t := by
          -- else there would be a first one
          have hstep : ∀ n : Nat, ∀ i : Int, s ≤ i → i < s + W + (n : Int) → i < (l.length : Int) → rd l i ≠ t := by
            intro n
            induction n with
            | zero => intro i i0 i1 _; exact hno i i0 (by omega)
            | succ n ih =>
              intro i i0 i1 i2
              by_cases hi : i < s + W + (n : Int)
              · exact ih i i0 hi i2
              · intro e
                refine hx ⟨i.toNat, by omega, by omega, by rw [Int.toNat_of_nonneg (by omega)]; exact e, fun i' a b => ih i' (by omega) (by omega) (by omega)⟩
          intro i i0 i1
          exact hstep l.length i i0 (by omega) i1
        have hlast : lastK l t l.length < s := lastK_ahead l t l.length s s0 hnone
        have := ht t.toNat (by omega) (by rw [Int.toNat_of_nonneg t0]; exact hall t t0 t1)
        rw [Int.toNat_of_nonneg t0] at this
        omega
    · intro h
      refine ⟨⟨by omega, fun i hi hin => ?_⟩, fun t htn hne => ?_⟩
      · obtain ⟨t0, t1⟩ := longIn_iff.1 hin
        apply Classical.byContradiction
        intro hn
        have hb := lastK_is l (rd l (i : Int)) i
        obtain ⟨j, j0, j1, hj⟩ := h (lastK l (rd l (i : Int)) i + 1) (by omega) (by omega) _ t0 t1
        exact lastK_behind l _ i j (by omega) (by omega) (by omega) hj
      · apply Classical.byContradiction
        intro hn
        have hb := lastK_is l (t : Int) l.length
        obtain ⟨j, j0, j1, hj⟩ := h (lastK l (t : Int) l.length + 1) (by omega) (by omega) (t : Int) (by omega) (by omega)
        exact lastK_behind l _ l.length j (by omega) (by omega) (by omega) hj

theorem covers_more {l : List Int} {th W M : Int} (h : Covers l th W) (hM : 0 ≤ M) : Covers l th (W + M) := by
  intro s s0 s1 t t0 t1
  obtain ⟨i, i0, i1, e⟩ := h s s0 (by omega) t t0 t1
  exact ⟨i, i0, by omega, e⟩

end Go.Proofs.Ytbjkcplbilopeaa.Pure

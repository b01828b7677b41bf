/- Steps add up over rows one behind the other, and Next is one that has something left, for each pick, if there is one (within the bounds that the statement cuts at). No conditions. -/
import Derived.Test.YtbjkcplbilopeaaOSx18
import Derived.Test.YtbjkcplbilopeaaOPlainB
namespace Go.Proofs.Ytbjkcplbilopeaa.Pure
open Go.RowKit Go.Proofs.Ytbjkcplbilopeaa.OS Go.Proofs.YtbjkcplbilopeaaW.PrintWords Go.Proofs.YtbjkcplbilopeaaW.PrintLast Go.Proofs.YtbjkcplbilopeaaW.PrintMore

theorem rd_append_left (a b : List Int) (i : Nat) (h : i < a.length) : rd (a ++ b) (i : Int) = rd a (i : Int) := by
  unfold rd; simp only [Int.toNat_natCast]; rw [List.getD_eq_getElem?_getD, List.getElem?_append_left h, ← List.getD_eq_getElem?_getD]
theorem rd_append_right (a b : List Int) (i : Nat) : rd (a ++ b) ((a.length + i : Nat) : Int) = rd b (i : Int) := by
  unfold rd; simp only [Int.toNat_natCast]; rw [List.getD_eq_getElem?_getD, List.getElem?_append_right (by omega), ← List.getD_eq_getElem?_getD]; congr 1; omega
theorem cntAt_left (a b : List Int) (t : Int) : ∀ k : Nat, k ≤ a.length → cntAt (a ++ b) t k = cntAt a t k := by
  intro k
  induction k with
  | zero => intro _; rfl
  | succ k ih => intro h; rw [cntAt, cntAt, ih (by omega), rd_append_left a b k (by omega)]
theorem cntAt_right (a b : List Int) (t : Int) : ∀ k : Nat, cntAt (a ++ b) t (a.length + k) = cntAt a t a.length + cntAt b t k := by
  intro k
  induction k with
  | zero => rw [Nat.add_zero, cntAt_left a b t _ (Nat.le_refl _)]; simp [cntAt]
  | succ k ih => rw [← Nat.add_assoc, cntAt, ih, rd_append_right a b k, cntAt]; omega
theorem cntAt_append (a b : List Int) (t : Int) : cntAt (a ++ b) t (a ++ b).length = cntAt a t a.length + cntAt b t b.length := by
  rw [List.length_append]; exact cntAt_right a b t b.length

theorem l2_loop (a : List Int) (left : List Bool) (s : Bool) (ha : a.length ≤ 100) (hl : left.length ≤ 100) (hs : s = true ↔ ∃ i : Int, 0 ≤ i ∧ i < (left.length : Int) ∧ rdOf false left i = true) (d : Nat) :
    ∀ (k : Nat) (i : Int), 0 ≤ i → i ≤ (a.length : Int) → (a.length : Int) - i = d → d + 200 ≤ k → pantrylaw20_PicksSteps.l2 k a left true s i = some true := by
  induction d with
  | zero =>
    intro k i h0 h1 h2 hk
    obtain ⟨k, rfl⟩ : ∃ m, k = m + 1 := ⟨k - 1, by omega⟩
    rw [pantrylaw20_PicksSteps.l2]
    rw [if_neg (by omega)]
  | succ d ih =>
    intro k i h0 h1 h2 hk
    obtain ⟨k, rfl⟩ : ∃ m, k = m + 1 := ⟨k - 1, by omega⟩
    rw [pantrylaw20_PicksSteps.l2]
    rw [if_pos (by omega), if_pos h0, next_is _ left (by omega) k (by omega), wrap_up h0 (by omega), ih k (i + 1) (by omega) (by omega) (by omega) (by omega)]
    simp only [Option.bind_some]
    generalize hv : nextV left (rd a i % (left.length : Int)) left.length = v
    have hneg : v = -1 → s = false → (if (decide (v ≥ 0) != s) = true then some false else if v ≥ (left.length : Int) then some false else if v ≥ 0 then (if 0 ≤ v then (if v < (left.length : Int) then (if rdOf false left v = true then some true else some false) else none) else none) else some true) = some true := by
      intro e1 e2
      subst e1; subst e2
      rw [if_neg (by decide), if_neg (by omega), if_neg (by omega)]
    by_cases hp : 0 < left.length
    · rcases nextV_finds left (rd a i % (left.length : Int)) hp left.length (Nat.le_refl _) with ⟨e, _⟩ | ⟨v0, v1, v2⟩
      · refine hneg (by rw [← hv]; exact e) ?_
        cases hsv : s with
        | false => rfl
        | true =>
          obtain ⟨j, j0, j1, j2⟩ := hs.1 hsv
          have := nextV_none left _ e j j0 j1
          rw [this] at j2; cases j2
      · rw [hv] at v0 v1 v2
        have : s = true := hs.2 ⟨v, v0, v1, v2⟩
        subst this
        rw [decide_eq_true (show v ≥ 0 from v0), if_neg (by decide), if_neg (by omega), if_pos v0, if_pos v0, if_pos v1, if_pos v2]
    · have hz : left.length = 0 := by omega
      refine hneg ?_ ?_
      · rw [← hv, hz]; rfl
      · cases hsv : s with
        | false => rfl
        | true => obtain ⟨j, j0, j1, _⟩ := hs.1 hsv; omega
theorem l1_loop (a : List Int) (left : List Bool) (ha : a.length ≤ 100) (hl : left.length ≤ 100) (d : Nat) :
    ∀ (k : Nat) (s : Bool) (i : Int), 0 ≤ i → i ≤ (left.length : Int) → (left.length : Int) - i = d → d + 500 ≤ k → (s = true ↔ ∃ j : Int, 0 ≤ j ∧ j < i ∧ rdOf false left j = true) → pantrylaw20_PicksSteps.l1 k a left true s i = some true := by
  induction d with
  | zero =>
    intro k s i h0 h1 h2 hk hs
    obtain ⟨k, rfl⟩ : ∃ m, k = m + 1 := ⟨k - 1, by omega⟩
    rw [pantrylaw20_PicksSteps.l1]
    rw [if_neg (by omega)]
    have hi : i = (left.length : Int) := by omega
    rw [hi] at hs
    exact l2_loop a left s ha hl hs a.length k 0 (by omega) (by omega) (by omega) (by omega)
  | succ d ih =>
    intro k s i h0 h1 h2 hk hs
    obtain ⟨k, rfl⟩ : ∃ m, k = m + 1 := ⟨k - 1, by omega⟩
    rw [pantrylaw20_PicksSteps.l1]
    rw [if_pos (by omega), wrap_up h0 (by omega)]
    have hnx : rdOf false left i = true → picks_Next.f k i left = some i := by
      intro h
      rw [next_is i left (by omega) k (by omega), Int.emod_eq_of_lt h0 (by omega), nextV_first left i h0 (by omega) h]
    cases s with
    | true =>
      obtain ⟨j, j0, j1, j2⟩ := hs.1 rfl
      have hr := ih k true (i + 1) (by omega) (by omega) (by omega) (by omega) ⟨fun _ => ⟨j, j0, by omega, j2⟩, fun _ => rfl⟩
      rw [if_pos rfl, if_pos h0]
      by_cases hb : rdOf false left i = true
      · rw [if_pos hb, hnx hb]; simp only [Option.bind_some, if_true]; exact hr
      · rw [if_neg hb]; exact hr
    | false =>
      have hnone : ∀ j : Int, 0 ≤ j → j < i → rdOf false left j ≠ true := fun j j0 j1 j2 => by have := hs.2 ⟨j, j0, j1, j2⟩; cases this
      have hr := ih k (rdOf false left i) (i + 1) (by omega) (by omega) (by omega) (by omega) ⟨fun h => ⟨i, h0, by omega, h⟩, fun ⟨j, j0, j1, j2⟩ => by
        by_cases e : j = i
        · subst e; exact j2
        · exact absurd j2 (hnone j j0 (by omega))⟩
      rw [if_neg (by decide), if_pos h0]
      by_cases hb : rdOf false left i = true
      · rw [if_pos hb, hnx hb]; simp only [Option.bind_some, if_true]; exact hr
      · rw [if_neg hb]; exact hr
theorem l0_loop (a b : List Int) (th : Int) (left : List Bool) (ha : a.length ≤ 100) (hb : b.length ≤ 100) (hl : left.length ≤ 100) (h1 : 1 ≤ th) (h2 : th ≤ 100) (d : Nat) :
    ∀ (k : Nat) (i : Int), 0 ≤ i → i ≤ th → th - i = d → d + 700 ≤ k → pantrylaw20_PicksSteps.l0 k a th left true (stepsV a th) (stepsV b th) (stepsV (a ++ b) th) i = some true := by
  induction d with
  | zero =>
    intro k i i0 i1 hd hk
    obtain ⟨k, rfl⟩ : ∃ m, k = m + 1 := ⟨k - 1, by omega⟩
    rw [pantrylaw20_PicksSteps.l0]
    rw [if_neg (by omega)]
    exact l1_loop a left ha hl left.length k false 0 (by omega) (by omega) (by omega) (by omega) ⟨fun h => (by cases h), fun ⟨j, j0, j1, _⟩ => by omega⟩
  | succ d ih =>
    intro k i i0 i1 hd hk
    obtain ⟨k, rfl⟩ : ∃ m, k = m + 1 := ⟨k - 1, by omega⟩
    have ca := cntAt_is a i a.length
    have cb := cntAt_is b i b.length
    have hi : i < th := by omega
    rw [pantrylaw20_PicksSteps.l0]
    rw [if_pos hi, if_pos i0, stepsV_length _ _ (by omega), stepsV_length _ _ (by omega), stepsV_length _ _ (by omega), if_pos hi, if_pos hi, if_pos hi]
    rw [stepsV_rd _ _ _ i0 hi, stepsV_rd _ _ _ i0 hi, stepsV_rd _ _ _ i0 hi, cntAt_append, wrap_in (i := cntAt a i a.length + cntAt b i b.length) (by omega) (by omega), if_pos rfl, wrap_up i0 (by omega)]
    exact ih k (i + 1) (by omega) (by omega) (by omega) (by omega)

theorem PicksSteps (a b : List Int) (th : Int) (left : List Bool) : ∃ k, pantrylaw20_PicksSteps.f k a b th left = some true := by
  have hstop : ∀ k : Nat, pantrylaw20_PicksSteps.j0 (k + 1) a b th left true true = some true := by intro k; rw [pantrylaw20_PicksSteps.j0]; rfl
  by_cases h1 : (a.length : Int) > 100
  · exact ⟨61, by unfold pantrylaw20_PicksSteps.f; rw [small_at (by omega)]; simp only [Option.bind_some]; rw [if_pos h1, hstop]⟩
  by_cases h2 : (b.length : Int) > 100
  · exact ⟨61, by unfold pantrylaw20_PicksSteps.f; rw [small_at (by omega)]; simp only [Option.bind_some]; rw [if_neg h1, if_pos h2, hstop]⟩
  by_cases h3 : th < 1
  · exact ⟨61, by unfold pantrylaw20_PicksSteps.f; rw [small_at (by omega)]; simp only [Option.bind_some]; rw [if_neg h1, if_neg h2, if_pos h3, hstop]⟩
  by_cases h4 : th > 100
  · exact ⟨61, by unfold pantrylaw20_PicksSteps.f; rw [small_at (by omega)]; simp only [Option.bind_some]; rw [if_neg h1, if_neg h2, if_neg h3, if_pos h4, hstop]⟩
  by_cases h5 : (left.length : Int) > 100
  · exact ⟨61, by unfold pantrylaw20_PicksSteps.f; rw [small_at (by omega)]; simp only [Option.bind_some]; rw [if_neg h1, if_neg h2, if_neg h3, if_neg h4, decide_eq_true h5, hstop]⟩
  refine ⟨2000, ?_⟩
  unfold pantrylaw20_PicksSteps.f; rw [small_at (by omega)]; simp only [Option.bind_some]
  rw [if_neg h1, if_neg h2, if_neg h3, if_neg h4, decide_eq_false h5]
  rw [pantrylaw20_PicksSteps.j0]
  rw [if_neg (by decide), steps_is a th (by omega) (by omega) (by omega) _ (by omega), steps_is b th (by omega) (by omega) (by omega) _ (by omega)]
  simp only [Option.bind_some]
  rw [if_pos (by simp; omega)]
  simp only [List.nil_append]
  rw [if_pos (by omega), steps_is (a ++ b) th (by rw [List.length_append]; omega) (by omega) (by omega) _ (by rw [List.length_append]; omega)]
  simp only [Option.bind_some]
  rw [stepsV_length _ _ (by omega), stepsV_length _ _ (by omega), stepsV_length _ _ (by omega)]
  rw [if_pos rfl, if_pos rfl, bne_self_eq_false]
  rw [pantrylaw20_PicksSteps.j1]
  rw [if_neg (by decide)]
  exact l0_loop a b th left (by omega) (by omega) (by omega) (by omega) (by omega) th.toNat _ 0 (by omega) (by omega) (by omega) (by omega)

end Go.Proofs.Ytbjkcplbilopeaa.Pure

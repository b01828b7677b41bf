/- Round is fair by as many as there are threads and by no fewer; a row that is fair by a window is fair by a greater one; Next finds the one thread that has something left (within the bounds that the statement cuts at). No conditions. -/
import Derived.Test.YtbjkcplbilopeaaOSx17
import Derived.Test.YtbjkcplbilopeaaOPlainB
namespace Go.Proofs.Ytbjkcplbilopeaa.Pure
open Go.RowKit Go.Proofs.Ytbjkcplbilopeaa.OS Go.Proofs.YtbjkcplbilopeaaW.PrintWords Go.Proofs.YtbjkcplbilopeaaW.PrintLast Go.Proofs.YtbjkcplbilopeaaW.PrintMore

theorem roundV_length (th turns : Int) : (roundV th turns).length = th.toNat * turns.toNat := by unfold roundV; rw [row_length]
theorem roundV_rd (T R : Nat) (i : Int) (h0 : 0 ≤ i) (h1 : i < ((T * R : Nat) : Int)) : rd (roundV T R) i = i % (T : Int) := by
  unfold roundV
  rw [row_rd _ _ _ h0 (by simpa using h1)]
  simp only [Int.toNat_natCast]
  obtain ⟨j, rfl⟩ : ∃ j : Nat, i = (j : Int) := ⟨i.toNat, by omega⟩
  simp
theorem roundV_covers (T R : Nat) (hT : 0 < T) : Covers (roundV T R) T T := by
  intro s s0 s1 t t0 t1
  rw [roundV_length] at s1
  simp only [Int.toNat_natCast] at s1
  have m0 := Int.emod_nonneg (t - s) (b := (T : Int)) (by omega)
  have m1 := Int.emod_lt_of_pos (t - s) (b := (T : Int)) (by omega)
  refine ⟨s + (t - s) % (T : Int), by omega, by omega, ?_⟩
  rw [roundV_rd T R _ (by omega) (by omega), Int.add_emod_emod, show s + (t - s) = t from by omega, Int.emod_eq_of_lt t0 t1]
theorem roundV_not (T R : Nat) (hT : 2 ≤ T) (hR : 0 < R) : ¬ Covers (roundV T R) T ((T : Int) - 1) := by
  intro h
  have hTR : T ≤ T * R := Nat.le_mul_of_pos_right _ hR
  have hlen := roundV_length T R
  simp only [Int.toNat_natCast] at hlen
  obtain ⟨i, i0, i1, e⟩ := h 0 (by omega) (by rw [hlen]; omega) ((T : Int) - 1) (by omega) (by omega)
  rw [roundV_rd T R i i0 (by omega), Int.emod_eq_of_lt i0 (by omega)] at e
  omega
theorem roundV_long (T R : Nat) (hT : 1 ≤ T) (hR : 1 ≤ R) : longV (roundV T R) T = (T : Int) - 1 := by
  have hTR : T ≤ T * R := Nat.le_mul_of_pos_right _ hR
  have hlen := roundV_length T R
  simp only [Int.toNat_natCast] at hlen
  have a := (longV_lt (roundV T R) T T (by omega) (by omega) (by rw [hlen]; omega)).2 (roundV_covers T R hT)
  have b := longV_is (roundV T R) T
  by_cases h1 : T = 1
  · subst h1; omega
  · have c : ¬ longV (roundV T R) T < (T : Int) - 1 := fun h => roundV_not T R (by omega) hR ((longV_lt (roundV T R) T ((T : Int) - 1) (by omega) (by omega) (by rw [hlen]; omega)).1 h)
    omega
/-- One alone has something left. -/
theorem next_last (T : Nat) (hT : 1 ≤ T) (first : Int) : nextV ((List.replicate T false).set (T - 1) true) first T = (T : Int) - 1 := by
  have hlen : ((List.replicate T false).set (T - 1) true).length = T := by simp
  have hrd : ∀ i : Int, 0 ≤ i → i < (T : Int) → (rdOf false ((List.replicate T false).set (T - 1) true) i = true ↔ i = (T : Int) - 1) := by
    intro i i0 i1
    unfold rdOf
    rw [List.getD_eq_getElem?_getD, List.getElem?_set]
    by_cases e : T - 1 = i.toNat
    · rw [if_pos e, if_pos (by simp; omega)]
      constructor
      · intro _; omega
      · intro _; rfl
    · rw [if_neg e]
      constructor
      · intro h
        rw [List.getElem?_replicate] at h
        split at h <;> simp at h
      · intro h; omega
  rcases nextV_finds ((List.replicate T false).set (T - 1) true) first (by rw [hlen]; omega) T (by rw [hlen]; omega) with ⟨h1, _⟩ | ⟨h1, h2, h3⟩
  · rw [← hlen] at h1
    have := nextV_none _ first (by rw [hlen]; rw [hlen] at h1; exact h1) ((T : Int) - 1) (by omega) (by rw [hlen]; omega)
    rw [(hrd _ (by omega) (by omega)).2 rfl] at this
    cases this
  · rw [hlen] at h2
    exact (hrd _ h1 h2).1 h3

open Classical in
theorem PicksRound : pantrylaw20_PicksRound.Pure := by
  intro l th turns W more _ _ _ _ _ _ _
  have hstop : ∀ k : Nat, pantrylaw20_PicksRound.j0 (k + 1) l th turns W more true true = some true := by intro k; rw [pantrylaw20_PicksRound.j0]; rfl
  by_cases h1 : (l.length : Int) > 100
  · exact ⟨61, by unfold pantrylaw20_PicksRound.f; rw [small_at (by omega)]; simp only [Option.bind_some]; rw [if_pos h1, hstop]⟩
  by_cases h2 : th < 1
  · exact ⟨61, by unfold pantrylaw20_PicksRound.f; rw [small_at (by omega)]; simp only [Option.bind_some]; rw [if_neg h1, if_pos h2, hstop]⟩
  by_cases h3 : th > 30
  · exact ⟨61, by unfold pantrylaw20_PicksRound.f; rw [small_at (by omega)]; simp only [Option.bind_some]; rw [if_neg h1, if_neg h2, if_pos h3, hstop]⟩
  by_cases h4 : turns < 1
  · exact ⟨61, by unfold pantrylaw20_PicksRound.f; rw [small_at (by omega)]; simp only [Option.bind_some]; rw [if_neg h1, if_neg h2, if_neg h3, if_pos h4, hstop]⟩
  by_cases h5 : turns > 30
  · exact ⟨61, by unfold pantrylaw20_PicksRound.f; rw [small_at (by omega)]; simp only [Option.bind_some]; rw [if_neg h1, if_neg h2, if_neg h3, if_neg h4, if_pos h5, hstop]⟩
  by_cases h6 : W < 1
  · exact ⟨61, by unfold pantrylaw20_PicksRound.f; rw [small_at (by omega)]; simp only [Option.bind_some]; rw [if_neg h1, if_neg h2, if_neg h3, if_neg h4, if_neg h5, if_pos h6, hstop]⟩
  by_cases h7 : W > 200
  · exact ⟨61, by unfold pantrylaw20_PicksRound.f; rw [small_at (by omega)]; simp only [Option.bind_some]; rw [if_neg h1, if_neg h2, if_neg h3, if_neg h4, if_neg h5, if_neg h6, if_pos h7, hstop]⟩
  by_cases h8 : more < 0
  · exact ⟨61, by unfold pantrylaw20_PicksRound.f; rw [small_at (by omega)]; simp only [Option.bind_some]; rw [if_neg h1, if_neg h2, if_neg h3, if_neg h4, if_neg h5, if_neg h6, if_neg h7, if_pos h8, hstop]⟩
  by_cases h9 : more > 200
  · exact ⟨61, by unfold pantrylaw20_PicksRound.f; rw [small_at (by omega)]; simp only [Option.bind_some]; rw [if_neg h1, if_neg h2, if_neg h3, if_neg h4, if_neg h5, if_neg h6, if_neg h7, if_neg h8, decide_eq_true h9, hstop]⟩
  obtain ⟨T, rfl⟩ : ∃ T : Nat, th = (T : Int) := ⟨th.toNat, by omega⟩
  obtain ⟨R, rfl⟩ : ∃ R : Nat, turns = (R : Int) := ⟨turns.toNat, by omega⟩
  have hTR : T * R ≤ 30 * 30 := Nat.mul_le_mul (by omega) (by omega)
  have hlen := roundV_length T R
  simp only [Int.toNat_natCast] at hlen
  obtain ⟨K, hK⟩ := ev_at (fun k => picks_Round.mono (T : Int) (R : Int) k) (round_is T R (by omega) (by omega) (by omega) (by omega) (by simp only [Int.toNat_natCast]; omega))
  have j1 : ∀ k : Nat, 40 ≤ k → pantrylaw20_PicksRound.j1 (k + 1) T R more true (roundV T R) false = some true := by
    intro k hk
    rw [pantrylaw20_PicksRound.j1]
    simp only [Int.toNat_natCast]
    rw [if_neg (by decide), if_pos (by omega), if_pos (by omega)]
    simp only [Option.bind_some]
    have hw : wrap64 ((T : Int) - 1) = (T : Int) - 1 := wrap_in (by omega) (by omega)
    have hm : wrap64 ((T : Int) * (R : Int)) = ((T * R : Nat) : Int) := by rw [← Int.natCast_mul]; exact wrap_in (by omega) (by omega)
    have e1 : (roundV T R).length ≤ 1000 := by rw [hlen]; exact Nat.le_trans hTR (by decide)
    have e2 : (1 : Int) ≤ T ∧ (T : Int) ≤ 4096 := by omega
    have e3 : ((roundV T R).length : Int) = ((T * R : Nat) : Int) := by rw [hlen]
    have e4 : (T : Int) - 1 < ((List.replicate T false).length : Int) := by rw [List.length_replicate]; omega
    have e5 : ((T : Int) - 1).toNat = T - 1 := by omega
    have e6 : (0 : Int) ≤ (T : Int) - 1 := by omega
    rw [hw, hm, if_pos e6, if_pos e4]
    simp only [if_true]
    rw [fair_is _ _ _ e1 e2.1 e2.2, decide_eq_true ⟨e2.1, roundV_covers T R (by omega)⟩]
    simp only [Option.bind_some, if_true]
    rw [wait_is _ _ e1 e2.1 e2.2, roundV_long T R (by omega) (by omega)]
    simp only [Option.bind_some]
    rw [if_pos (by omega), if_pos e3, e5]
    rw [next_is _ _ (by simp; omega) _ (by simp; omega)]
    simp only [Option.bind_some]
    have := next_last T (by omega) (more % (((List.replicate T false).set (T - 1) true).length : Int))
    rw [show ((List.replicate T false).set (T - 1) true).length = T from by simp] at this ⊢
    rw [this]; simp
  refine ⟨K + 200, ?_⟩
  unfold pantrylaw20_PicksRound.f
  rw [small_at (by omega)]; simp only [Option.bind_some]
  rw [if_neg h1, if_neg h2, if_neg h3, if_neg h4, if_neg h5, if_neg h6, if_neg h7, if_neg h8, decide_eq_false h9]
  rw [pantrylaw20_PicksRound.j0]
  rw [if_neg (by decide), hK _ (by omega)]
  simp only [Option.bind_some]
  rw [fair_is l T W (by omega) (by omega) (by omega)]
  simp only [Option.bind_some]
  by_cases hc : 1 ≤ W ∧ Covers l T W
  · rw [decide_eq_true hc, if_pos rfl, wrap_in (by omega) (by omega), fair_is l T (W + more) (by omega) (by omega) (by omega), decide_eq_true ⟨by omega, covers_more hc.2 (by omega)⟩]
    exact j1 _ (by omega)
  · rw [decide_eq_false hc, if_neg (by decide)]
    exact j1 _ (by omega)

end Go.Proofs.Ytbjkcplbilopeaa.Pure

/- A pick by as many as there are threads more, or fewer, finds the same thread (within the bounds that the statement cuts at). No conditions. -/
import Derived.Test.YtbjkcplbilopeaaOSx19
import Derived.Test.YtbjkcplbilopeaaOPlainB
namespace Go.Proofs.Ytbjkcplbilopeaa.Pure
open Go.RowKit Go.Proofs.Ytbjkcplbilopeaa.OS Go.Proofs.YtbjkcplbilopeaaW.PrintWords Go.Proofs.YtbjkcplbilopeaaW.PrintLast Go.Proofs.YtbjkcplbilopeaaW.PrintMore

theorem rdOf_set_self (l : List Bool) (i : Int) (h0 : 0 ≤ i) (h1 : i < (l.length : Int)) : rdOf false (l.set i.toNat false) i = false := by
  unfold rdOf
  rw [List.getD_eq_getElem?_getD, List.getElem?_set, if_pos rfl, if_pos (by omega)]; rfl

theorem PicksAround (p : Int) (left : List Bool) (turns : Int) : ∃ k, pantrylaw20_PicksAround.f k p left turns = some true := by
  have hstop : ∀ k : Nat, pantrylaw20_PicksAround.j0 (k + 1) p left turns true true = some true := by intro k; rw [pantrylaw20_PicksAround.j0]; rfl
  by_cases h1 : (left.length : Int) < 1
  · exact ⟨61, by unfold pantrylaw20_PicksAround.f; rw [small_at (by omega)]; simp only [Option.bind_some]; rw [if_pos h1, hstop]⟩
  by_cases h2 : (left.length : Int) > 100
  · exact ⟨61, by unfold pantrylaw20_PicksAround.f; rw [small_at (by omega)]; simp only [Option.bind_some]; rw [if_neg h1, if_pos h2, hstop]⟩
  by_cases h3 : p < -1099511627776
  · exact ⟨61, by unfold pantrylaw20_PicksAround.f; rw [small_at (by omega)]; simp only [Option.bind_some]; rw [if_neg h1, if_neg h2, if_pos h3, hstop]⟩
  by_cases h4 : p > 1099511627776
  · exact ⟨61, by unfold pantrylaw20_PicksAround.f; rw [small_at (by omega)]; simp only [Option.bind_some]; rw [if_neg h1, if_neg h2, if_neg h3, if_pos h4, hstop]⟩
  by_cases h5 : turns < -1000
  · exact ⟨61, by unfold pantrylaw20_PicksAround.f; rw [small_at (by omega)]; simp only [Option.bind_some]; rw [if_neg h1, if_neg h2, if_neg h3, if_neg h4, if_pos h5, hstop]⟩
  by_cases h6 : turns > 1000
  · exact ⟨61, by unfold pantrylaw20_PicksAround.f; rw [small_at (by omega)]; simp only [Option.bind_some]; rw [if_neg h1, if_neg h2, if_neg h3, if_neg h4, if_neg h5, decide_eq_true h6, hstop]⟩
  refine ⟨500, ?_⟩
  unfold pantrylaw20_PicksAround.f; rw [small_at (by omega)]; simp only [Option.bind_some]
  rw [if_neg h1, if_neg h2, if_neg h3, if_neg h4, if_neg h5, decide_eq_false h6]
  rw [pantrylaw20_PicksAround.j0]
  rw [if_neg (by decide)]
  have hm : -100000 ≤ turns * (left.length : Int) ∧ turns * (left.length : Int) ≤ 100000 := by
    have a : -1000 * (left.length : Int) ≤ turns * (left.length : Int) := Int.mul_le_mul_of_nonneg_right (by omega) (by omega)
    have b : turns * (left.length : Int) ≤ 1000 * (left.length : Int) := Int.mul_le_mul_of_nonneg_right (by omega) (by omega)
    omega
  rw [wrap_in (i := turns * (left.length : Int)) (by omega) (by omega), wrap_in (i := p + turns * (left.length : Int)) (by omega) (by omega)]
  rw [next_is p left (by omega) 499 (by omega), next_is (p + turns * (left.length : Int)) left (by omega) 499 (by omega), Int.add_mul_emod_self_right]
  simp only [Option.bind_some]
  generalize hv : nextV left (p % (left.length : Int)) left.length = v
  rcases nextV_finds left (p % (left.length : Int)) (by omega) left.length (Nat.le_refl _) with ⟨e, _⟩ | ⟨v0, v1, v2⟩
  · rw [hv] at e
    subst e
    rfl
  · rw [hv] at v0 v1 v2
    rw [if_neg (by omega), if_pos (by simp; omega)]
    simp only [List.nil_append]
    rw [if_pos v0, if_pos v1]
    have hl : (left.set v.toNat false).length = left.length := by simp
    rw [next_is v (left.set v.toNat false) (by rw [hl]; omega) 499 (by rw [hl]; omega)]
    simp only [Option.bind_some, if_true]
    rw [if_pos v1, if_pos v2, next_is v left (by omega) 499 (by omega), Int.emod_eq_of_lt v0 v1, nextV_first left v v0 v1 v2]
    simp only [Option.bind_some, if_true]
    rcases nextV_finds (left.set v.toNat false) (v % ((left.set v.toNat false).length : Int)) (by rw [hl]; omega) (left.set v.toNat false).length (Nat.le_refl _) with ⟨e, _⟩ | ⟨_, _, u2⟩
    · rw [e]
      exact congrArg some (bne_iff_ne.mpr (by omega))
    · have : nextV (left.set v.toNat false) (v % ((left.set v.toNat false).length : Int)) (left.set v.toNat false).length ≠ v := by
        intro e
        rw [e, rdOf_set_self left v v0 v1] at u2
        cases u2
      exact congrArg some (bne_iff_ne.mpr this)

end Go.Proofs.Ytbjkcplbilopeaa.Pure

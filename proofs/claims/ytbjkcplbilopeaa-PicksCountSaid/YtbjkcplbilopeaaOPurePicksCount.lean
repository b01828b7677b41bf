/- A fair row of as many as window times n picks has each thread n times at least (rows of at most 200 picks, 1 to 20 threads, windows of 1 to 300; else only the small case is asked). No conditions. -/
import Derived.Test.YtbjkcplbilopeaaOSx16
import Derived.Test.YtbjkcplbilopeaaOPlainB
namespace Go.Proofs.Ytbjkcplbilopeaa.Pure
open Go.RowKit Go.Proofs.Ytbjkcplbilopeaa.OS Go.Proofs.YtbjkcplbilopeaaW.PrintWords Go.Proofs.YtbjkcplbilopeaaW.PrintLast Go.Proofs.YtbjkcplbilopeaaW.PrintMore

theorem cntAt_mono (l : List Int) (t : Int) (a d : Nat) : cntAt l t a ≤ cntAt l t (a + d) := by
  induction d with
  | zero => exact Int.le_refl _
  | succ d ih =>
    rw [← Nat.add_assoc, cntAt]
    split <;> omega
theorem cntAt_hit (l : List Int) (t : Int) (a i b : Nat) (h0 : a ≤ i) (h1 : i < b) (h : rd l (i : Int) = t) : cntAt l t a + 1 ≤ cntAt l t b := by
  have m1 := cntAt_mono l t a (i - a)
  have m2 := cntAt_mono l t (i + 1) (b - (i + 1))
  rw [show a + (i - a) = i from by omega] at m1
  rw [show i + 1 + (b - (i + 1)) = b from by omega] at m2
  have e : cntAt l t (i + 1) = cntAt l t i + 1 := by rw [cntAt, if_pos h]
  omega
/-- Windows side by side: each holds the thread once at least. -/
theorem cntAt_windows (l : List Int) (th : Int) (W : Nat) (h : Covers l th W) (t : Int) (t0 : 0 ≤ t) (t1 : t < th) : ∀ n : Nat, W * n ≤ l.length → (n : Int) ≤ cntAt l t (W * n) := by
  intro n
  induction n with
  | zero => intro _; simp [cntAt]
  | succ n ih =>
    intro hn
    rw [Nat.mul_succ] at hn ⊢
    obtain ⟨i, i0, i1, e⟩ := h ((W * n : Nat) : Int) (by omega) (by omega) t t0 t1
    have := cntAt_hit l t (W * n) i.toNat (W * n + W) (by omega) (by omega) (by rw [Int.toNat_of_nonneg (by omega)]; exact e)
    have := ih (by omega)
    omega
theorem count_loop (l : List Int) (th n : Int) (hth : 1 ≤ th) (hth2 : th ≤ 20) (h : ∀ t : Int, 0 ≤ t → t < th → n ≤ cntAt l t l.length) (d : Nat) : ∀ (k : Nat) (i : Int), 0 ≤ i → i ≤ th → th - i = d → d + 1 ≤ k →
    pantrylaw20_PicksCount.l0 k th true n (stepsV l th) i = some true := by
  have hlen := stepsV_length l th (by omega)
  induction d with
  | zero =>
    intro k i h0 h1 h2 hk
    obtain ⟨k, rfl⟩ : ∃ m, k = m + 1 := ⟨k - 1, by omega⟩
    rw [pantrylaw20_PicksCount.l0]
    rw [hlen, if_neg (by omega), if_pos rfl, beq_iff_eq.2 rfl]
  | succ d ih =>
    intro k i h0 h1 h2 hk
    obtain ⟨k, rfl⟩ : ∃ m, k = m + 1 := ⟨k - 1, by omega⟩
    rw [pantrylaw20_PicksCount.l0]
    have := h i h0 (by omega)
    rw [hlen, if_pos (by omega), if_pos h0, stepsV_rd l th i h0 (by omega), if_neg (by omega), wrap_up h0 (by omega)]
    exact ih k (i + 1) (by omega) (by omega) (by omega) (by omega)

open Classical in
theorem PicksCount : pantrylaw20_PicksCount.Pure := by
  intro l th W _ _ _ _ _
  refine ⟨500, ?_⟩
  unfold pantrylaw20_PicksCount.f
  rw [small_at (by omega)]; simp only [Option.bind_some]
  by_cases h1 : (l.length : Int) > 200
  · rw [if_pos h1]; rfl
  rw [if_neg h1]
  by_cases h2 : th < 1
  · rw [if_pos h2]; rfl
  rw [if_neg h2]
  by_cases h3 : th > 20
  · rw [if_pos h3]; rfl
  rw [if_neg h3]
  by_cases h4 : W < 1
  · rw [if_pos h4]; rfl
  rw [if_neg h4]
  by_cases h5 : W > 300
  · rw [if_pos h5]; rfl
  rw [if_neg h5, fair_is l th W (by omega) (by omega) (by omega)]
  simp only [Option.bind_some]
  by_cases hc : 1 ≤ W ∧ Covers l th W
  · rw [decide_eq_true hc]
    rw [pantrylaw20_PicksCount.j0]
    rw [if_neg (by decide), if_neg (by omega), steps_is l th (by omega) (by omega) (by omega) _ (by omega)]
    simp only [Option.bind_some]
    obtain ⟨V, rfl⟩ : ∃ V : Nat, W = (V : Int) := ⟨W.toNat, by omega⟩
    have hq : (l.length : Int) / (V : Int) = ((l.length / V : Nat) : Int) := by omega
    have hq1 : l.length / V ≤ l.length := Nat.div_le_self _ _
    have hq0 : 0 ≤ ((l.length / V : Nat) : Int) := Int.natCast_nonneg _
    rw [hq, wrap_in (by omega) (by omega)]
    refine count_loop l th _ (by omega) (by omega) (fun t t0 t1 => ?_) th.toNat _ 0 (by omega) (by omega) (by omega) (by omega)
    have hm : V * (l.length / V) ≤ l.length := Nat.mul_div_le _ _
    have a := cntAt_windows l th V hc.2 t t0 t1 (l.length / V) hm
    have b := cntAt_mono l t (V * (l.length / V)) (l.length - V * (l.length / V))
    rw [show V * (l.length / V) + (l.length - V * (l.length / V)) = l.length from by omega] at b
    omega
  · rw [decide_eq_false hc]; rfl

end Go.Proofs.Ytbjkcplbilopeaa.Pure

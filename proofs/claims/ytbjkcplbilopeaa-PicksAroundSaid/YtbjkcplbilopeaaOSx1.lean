/- Walks of the Go functions that the statement reaches: each call answers what the plain Lean function beside it says (a step on the way to the statement). Written by a program of the session's own; not a printed file. No conditions. -/
import Derived.Test.YtbjkcplbilopeaaOSx0
namespace Go.Proofs.Ytbjkcplbilopeaa.OS
open Go.RowKit Go.Proofs.YtbjkcplbilopeaaW.PrintWords Go.Proofs.YtbjkcplbilopeaaW.PrintLast Go.Proofs.YtbjkcplbilopeaaW.PrintMore
attribute [local go_sem] max2_int min2_int max_two min_two max_three min_three max_four min_four   -- for this text's walks alone
set_option linter.unusedVariables false
set_option linter.unusedSimpArgs false

/-! ### picks_Next: function 10 -/
def picks_Next.l0 : Nat → List Bool → Int → Int → Int → Int → Option (Int)
  | 0, _, _, _, _, _ => none
  | k + 1, x1, x5, x6, x20, x21 => if x21 < x20 then (if x5 = 0 then (none) else (if 0 ≤ (Int.tmod (wrap64 (x6 + x21)) x5) then (if (Int.tmod (wrap64 (x6 + x21)) x5) < (x1.length : Int) then (if rdOf false x1 (Int.tmod (wrap64 (x6 + x21)) x5) = true then (some (Int.tmod (wrap64 (x6 + x21)) x5)) else (picks_Next.l0 k x1 x5 x6 x20 (wrap64 (x21 + 1)))) else (none)) else (none))) else (some (-1))
def picks_Next.f (k : Nat) (a0 : Int) (l1 : List Bool) : Option (Int) := if (l1.length : Int) = 0 then (some (-1)) else (picks_Next.l0 k l1 (l1.length : Int) (Int.tmod (wrap64 ((Int.tmod a0 (l1.length : Int)) + (l1.length : Int))) (l1.length : Int)) (l1.length : Int) 0)
theorem picks_Next.mono_l : ∀ k, (∀ y0 y1 y2 y3 y4, LeO (picks_Next.l0 k y0 y1 y2 y3 y4) (picks_Next.l0 (k + 1) y0 y1 y2 y3 y4))
  | 0 => fun _ _ _ _ _ r h => by simp [picks_Next.l0] at h
  | k + 1 => by
    have ih0 := picks_Next.mono_l k
    · intro y0 y1 y2 y3 y4
      unfold picks_Next.l0
      repeat' first
      | (with_reducible exact ih0 _ _ _ _ _)
      | (with_reducible exact LeO.refl _)
      | (with_reducible exact LeO.none _)
      | (with_reducible refine LeO.ite ?_ ?_)
      | (with_reducible refine LeO.bind ?_ (fun _ => ?_))
      | exact ih0 _ _ _ _ _
      | exact LeO.none _
      | refine LeO.ite ?_ ?_
      | refine LeO.bind ?_ (fun _ => ?_)
theorem picks_Next.mono : ∀ a0 a1 k, LeO (picks_Next.f k a0 a1) (picks_Next.f (k + 1) a0 a1) := by
  intro a0 a1 k
  have ih0 := picks_Next.mono_l k
  unfold picks_Next.f
  repeat' first
      | (with_reducible exact ih0 _ _ _ _ _)
      | (with_reducible exact LeO.refl _)
      | (with_reducible exact LeO.none _)
      | (with_reducible refine LeO.ite ?_ ?_)
      | (with_reducible refine LeO.bind ?_ (fun _ => ?_))
      | exact ih0 _ _ _ _ _
      | exact LeO.none _
      | refine LeO.ite ?_ ?_
      | refine LeO.bind ?_ (fun _ => ?_)
set_option maxHeartbeats 8000000 in
set_option maxRecDepth 100000 in
theorem picks_Next.calls (k : Nat) (a0 : Int) (A1 : Option Addr) (c1 : Nat) (l1 : List Bool) (r : Int) (w : World) (hr1 : Kd.C Kd.bool w A1 l1.length l1) (hc1 : l1.length ≤ c1) (h : picks_Next.f k a0 l1 = some r) :
    Calls Try.prog 10 #[.int .i64 a0, .slice A1 l1.length c1] w fun e w' => e = .returned (.int .i64 r) ∧ Drawn0 w w' := by
  have HR1 := Aside0.mk hr1
  have HC1 := Aside0.mk hc1
  clear hr1 hc1
  have H : (if (l1.length : Int) = 0 then (some (-1)) else (picks_Next.l0 k l1 (l1.length : Int) (Int.tmod (wrap64 ((Int.tmod a0 (l1.length : Int)) + (l1.length : Int))) (l1.length : Int)) (l1.length : Int) 0)) = some r := h
  clear h
  by_cases c3 : (l1.length : Int) = 0
  · rw [if_pos c3] at H
    have c3b0 : ((l1.length : Int) == 0) = true := beq_iff_eq.mpr c3
    have c3b1 : ((l1.length : Int) != 0) = false := bne_eq_false_iff_eq.mpr c3
    clear c3
    obtain rfl := Option.some.inj H
    go_enter Try.func10, Try.ntmps10
    go_wp2
    go_ret
    exact ⟨by first | rfl | (simp; done) | (simp [*]; done), by repeat (first | exact Drawn0.refl _ | apply Drawn0.step)⟩
  · rw [if_neg c3] at H
    have c3b0 : ((l1.length : Int) == 0) = false := beq_eq_false_iff_ne.mpr c3
    have c3b1 : ((l1.length : Int) != 0) = true := bne_iff_ne.mpr c3
    have c3b2 : ¬ (l1 = []) := fun h_ => c3 (by rw [h_]; rfl)
    have H' := Aside0.mk H
    clear H
    go_enter Try.func10, Try.ntmps10
    go_wp2
    go_loopg [21] k (fun kq v21 w' => ∃ (x21_1 : Int), v21 = .int .i64 x21_1 ∧ Aside0 (picks_Next.l0 kq l1 (l1.length : Int) (Int.tmod (wrap64 ((Int.tmod a0 (l1.length : Int)) + (l1.length : Int))) (l1.length : Int)) (l1.length : Int) x21_1 = some r) ∧ Aside0 (kq ≤ k) ∧ Drawn0 w w')
    case atStart => exact ⟨(0), (by first | rfl | (simp; done) | (simp [*]; done)), H', ⟨Nat.le_refl _⟩, by repeat (first | exact Drawn0.refl _ | apply Drawn0.step)⟩
    case round =>
      clear H'
      try clear c1
      try clear p2
      try clear c3
      try clear c3b0
      try clear c3b1
      try clear c3b2
      obtain ⟨x21_1, rfl, HA, HK1, ⟨m1, rfl⟩⟩ := hrel
      cases gk with
      | zero => exact absurd HA.out (by simp [picks_Next.l0])
      | succ k1 =>
        have H := HA.out
        clear HA
        simp only [picks_Next.l0] at H
        by_cases c4 : x21_1 < (l1.length : Int)
        · rw [if_pos c4] at H
          have c4b0 : decide (x21_1 < (l1.length : Int)) = true := decide_eq_true c4
          clear c4
          by_cases c5 : (l1.length : Int) = 0
          · rw [if_pos c5] at H
            exact absurd H (by simp)
          · rw [if_neg c5] at H
            have c5b0 : ((l1.length : Int) == 0) = false := beq_eq_false_iff_ne.mpr c5
            have c5b1 : ((l1.length : Int) != 0) = true := bne_iff_ne.mpr c5
            have c5b2 : ¬ (l1 = []) := fun h_ => c5 (by rw [h_]; rfl)
            obtain ⟨ji6, hji6⟩ : ∃ j_ : Int, (Int.tmod (wrap64 ((Int.tmod (wrap64 ((Int.tmod a0 (l1.length : Int)) + (l1.length : Int))) (l1.length : Int)) + x21_1)) (l1.length : Int)) = j_ := ⟨_, rfl⟩
            replace H : (if 0 ≤ (ji6) then (if (ji6) < (l1.length : Int) then (if rdOf false l1 (ji6) = true then (some ji6) else (picks_Next.l0 k1 l1 (l1.length : Int) (Int.tmod (wrap64 ((Int.tmod a0 (l1.length : Int)) + (l1.length : Int))) (l1.length : Int)) (l1.length : Int) (wrap64 (x21_1 + 1)))) else (none)) else (none)) = some r := by first | (rw [hji6] at H; exact H) | (simp only [hji6] at H ⊢; exact H)
            by_cases c7 : 0 ≤ (ji6)
            · rw [if_pos c7] at H
              have c7b0 : decide (0 ≤ (ji6)) = true := decide_eq_true c7
              clear c7
              by_cases c8 : (ji6) < (l1.length : Int)
              · rw [if_pos c8] at H
                have c8b0 : decide ((ji6) < (l1.length : Int)) = true := decide_eq_true c8
                clear c8
                obtain ⟨bq9, hbq9⟩ : ∃ b_ : Bool, b_ = (rdOf false l1 (ji6)) := ⟨_, rfl⟩
                replace H : (if bq9 = true then (some ji6) else (picks_Next.l0 k1 l1 (l1.length : Int) (Int.tmod (wrap64 ((Int.tmod a0 (l1.length : Int)) + (l1.length : Int))) (l1.length : Int)) (l1.length : Int) (wrap64 (x21_1 + 1)))) = some r := by rw [← hbq9] at H; exact H
                have Nbq9 := Aside0.mk hbq9
                clear hbq9
                by_cases c10 : bq9 = true
                · subst c10
                  have H1 : (some ji6) = some r := by rw [if_pos rfl] at H; exact H
                  clear H
                  have H := H1
                  clear H1
                  obtain rfl := Option.some.inj H
                  have p101 : 0 ≤ ((ji6) : Int) := of_decide_eq_true (by first | (with_reducible assumption) | assumption)
                  have q101 : (ji6) < (l1.length : Int) := of_decide_eq_true (by first | (with_reducible assumption) | assumption)
                  obtain ⟨ad101, e101, hx101_0⟩ := Kd.at_bool HR1.out (ji6) p101 q101
                  (try rw [← Nbq9.out] at hx101_0)
                  cases e101
                  replace p101 := eq_true p101
                  replace q101 := eq_true q101
                  go_wp2
                  go_ret
                  exact ⟨by first | rfl | (simp; done) | (simp only [← hji6] <;> (first | rfl | simp)) | (simp [*]; done), by repeat (first | exact Drawn0.refl _ | apply Drawn0.step)⟩
                · replace c10 := Bool.eq_false_iff.mpr c10
                  subst c10
                  have H1 : (picks_Next.l0 k1 l1 (l1.length : Int) (Int.tmod (wrap64 ((Int.tmod a0 (l1.length : Int)) + (l1.length : Int))) (l1.length : Int)) (l1.length : Int) (wrap64 (x21_1 + 1))) = some r := by rw [if_neg (show ¬ (false = true) by decide)] at H; exact H
                  clear H
                  have H := H1
                  clear H1
                  have H' := Aside0.mk H
                  clear H
                  have p101 : 0 ≤ ((ji6) : Int) := of_decide_eq_true (by first | (with_reducible assumption) | assumption)
                  have q101 : (ji6) < (l1.length : Int) := of_decide_eq_true (by first | (with_reducible assumption) | assumption)
                  obtain ⟨ad101, e101, hx101_0⟩ := Kd.at_bool HR1.out (ji6) p101 q101
                  (try rw [← Nbq9.out] at hx101_0)
                  cases e101
                  replace p101 := eq_true p101
                  replace q101 := eq_true q101
                  go_wp2
                  go_roundg k1
                  case measure => have := HK1.out; omega
                  case rel => exact ⟨(wrap64 (x21_1 + 1)), (by first | rfl | (simp; done) | (simp [*]; done)), H', ⟨by have := HK1.out; omega⟩, by repeat (first | exact Drawn0.refl _ | apply Drawn0.step)⟩
              · rw [if_neg c8] at H
                exact absurd H (by simp)
            · rw [if_neg c7] at H
              exact absurd H (by simp)
        · rw [if_neg c4] at H
          have c4b0 : decide (x21_1 < (l1.length : Int)) = false := decide_eq_false c4
          clear c4
          obtain rfl := Option.some.inj H
          go_wp2
          go_ret
          exact ⟨by first | rfl | (simp; done) | (simp [*]; done), by repeat (first | exact Drawn0.refl _ | apply Drawn0.step)⟩

end Go.Proofs.Ytbjkcplbilopeaa.OS

/- Walks of the Go functions that the statement reaches: each call answers what the plain Lean function beside it says (a step on the way to the statement). Written by a program of the session's own; not a printed file. No conditions. -/
import Derived.Test.YtbjkcplbilopeaaOSx0
namespace Go.Proofs.Ytbjkcplbilopeaa.OS
open Go.RowKit Go.Proofs.YtbjkcplbilopeaaW.PrintWords Go.Proofs.YtbjkcplbilopeaaW.PrintLast Go.Proofs.YtbjkcplbilopeaaW.PrintMore
attribute [local go_sem] max2_int min2_int max_two min_two max_three min_three max_four min_four   -- for this text's walks alone
set_option linter.unusedVariables false
set_option linter.unusedSimpArgs false

/-! ### pantryref20_Next: function 11 -/
def pantryref20_Next.l0 : Nat → Int → List Bool → Int → Int → Option (Int)
  | 0, _, _, _, _ => none
  | k + 1, x0, x1, x5, x6 => if x6 < x5 then (if x5 = 0 then (none) else (if (Int.tmod x0 x5) < 0 then (if 0 ≤ (Int.tmod (wrap64 ((wrap64 ((Int.tmod x0 x5) + x5)) + x6)) x5) then (if (Int.tmod (wrap64 ((wrap64 ((Int.tmod x0 x5) + x5)) + x6)) x5) < (x1.length : Int) then (if rdOf false x1 (Int.tmod (wrap64 ((wrap64 ((Int.tmod x0 x5) + x5)) + x6)) x5) = true then (some (Int.tmod (wrap64 ((wrap64 ((Int.tmod x0 x5) + x5)) + x6)) x5)) else (pantryref20_Next.l0 k x0 x1 x5 (wrap64 (x6 + 1)))) else (none)) else (none)) else (if 0 ≤ (Int.tmod (wrap64 ((Int.tmod x0 x5) + x6)) x5) then (if (Int.tmod (wrap64 ((Int.tmod x0 x5) + x6)) x5) < (x1.length : Int) then (if rdOf false x1 (Int.tmod (wrap64 ((Int.tmod x0 x5) + x6)) x5) = true then (some (Int.tmod (wrap64 ((Int.tmod x0 x5) + x6)) x5)) else (pantryref20_Next.l0 k x0 x1 x5 (wrap64 (x6 + 1)))) else (none)) else (none)))) else (some (-1))
def pantryref20_Next.f (k : Nat) (a0 : Int) (l1 : List Bool) : Option (Int) := pantryref20_Next.l0 k a0 l1 (l1.length : Int) 0
theorem pantryref20_Next.mono_l : ∀ k, (∀ y0 y1 y2 y3, LeO (pantryref20_Next.l0 k y0 y1 y2 y3) (pantryref20_Next.l0 (k + 1) y0 y1 y2 y3))
  | 0 => fun _ _ _ _ r h => by simp [pantryref20_Next.l0] at h
  | k + 1 => by
    have ih0 := pantryref20_Next.mono_l k
    · intro y0 y1 y2 y3
      unfold pantryref20_Next.l0
      repeat' first
      | (with_reducible exact ih0 _ _ _ _)
      | (with_reducible exact LeO.refl _)
      | (with_reducible exact LeO.none _)
      | (with_reducible refine LeO.ite ?_ ?_)
      | (with_reducible refine LeO.bind ?_ (fun _ => ?_))
      | exact ih0 _ _ _ _
      | exact LeO.none _
      | refine LeO.ite ?_ ?_
      | refine LeO.bind ?_ (fun _ => ?_)
theorem pantryref20_Next.mono : ∀ a0 a1 k, LeO (pantryref20_Next.f k a0 a1) (pantryref20_Next.f (k + 1) a0 a1) := by
  intro a0 a1 k
  have ih0 := pantryref20_Next.mono_l k
  unfold pantryref20_Next.f
  repeat' first
      | (with_reducible exact ih0 _ _ _ _)
      | (with_reducible exact LeO.refl _)
      | (with_reducible exact LeO.none _)
      | (with_reducible refine LeO.ite ?_ ?_)
      | (with_reducible refine LeO.bind ?_ (fun _ => ?_))
      | exact ih0 _ _ _ _
      | exact LeO.none _
      | refine LeO.ite ?_ ?_
      | refine LeO.bind ?_ (fun _ => ?_)
set_option maxHeartbeats 8000000 in
set_option maxRecDepth 100000 in
theorem pantryref20_Next.calls (k : Nat) (a0 : Int) (A1 : Option Addr) (c1 : Nat) (l1 : List Bool) (r : Int) (w : World) (hr1 : Kd.C Kd.bool w A1 l1.length l1) (hc1 : l1.length ≤ c1) (h : pantryref20_Next.f k a0 l1 = some r) :
    Calls Try.prog 11 #[.int .i64 a0, .slice A1 l1.length c1] w fun e w' => e = .returned (.int .i64 r) ∧ Drawn0 w w' := by
  have HR1 := Aside0.mk hr1
  have HC1 := Aside0.mk hc1
  clear hr1 hc1
  have H : (pantryref20_Next.l0 k a0 l1 (l1.length : Int) 0) = some r := h
  clear h
  have H' := Aside0.mk H
  clear H
  go_enter Try.func11, Try.ntmps11
  go_wp2
  go_loopg [6] k (fun kq v6 w' => ∃ (x6_1 : Int), v6 = .int .i64 x6_1 ∧ Aside0 (pantryref20_Next.l0 kq a0 l1 (l1.length : Int) x6_1 = some r) ∧ Aside0 (kq ≤ k) ∧ Drawn0 w w')
  case atStart => exact ⟨(0), (by first | rfl | (simp; done) | (simp [*]; done)), H', ⟨Nat.le_refl _⟩, by repeat (first | exact Drawn0.refl _ | apply Drawn0.step)⟩
  case round =>
    clear H'
    try clear c1
    try clear p2
    obtain ⟨x6_1, rfl, HA, HK1, ⟨m1, rfl⟩⟩ := hrel
    cases gk with
    | zero => exact absurd HA.out (by simp [pantryref20_Next.l0])
    | succ k1 =>
      have H := HA.out
      clear HA
      simp only [pantryref20_Next.l0] at H
      by_cases c3 : x6_1 < (l1.length : Int)
      · rw [if_pos c3] at H
        have c3b0 : decide (x6_1 < (l1.length : Int)) = true := decide_eq_true c3
        clear c3
        by_cases c4 : (l1.length : Int) = 0
        · rw [if_pos c4] at H
          exact absurd H (by simp)
        · rw [if_neg c4] at H
          have c4b0 : ((l1.length : Int) == 0) = false := beq_eq_false_iff_ne.mpr c4
          have c4b1 : ((l1.length : Int) != 0) = true := bne_iff_ne.mpr c4
          have c4b2 : ¬ (l1 = []) := fun h_ => c4 (by rw [h_]; rfl)
          by_cases c5 : (Int.tmod a0 (l1.length : Int)) < 0
          · rw [if_pos c5] at H
            have c5b0 : decide ((Int.tmod a0 (l1.length : Int)) < 0) = true := decide_eq_true c5
            clear c5
            obtain ⟨ji6, hji6⟩ : ∃ j_ : Int, (Int.tmod (wrap64 ((wrap64 ((Int.tmod a0 (l1.length : Int)) + (l1.length : Int))) + x6_1)) (l1.length : Int)) = j_ := ⟨_, rfl⟩
            replace H : (if 0 ≤ (ji6) then (if (ji6) < (l1.length : Int) then (if rdOf false l1 (ji6) = true then (some ji6) else (pantryref20_Next.l0 k1 a0 l1 (l1.length : Int) (wrap64 (x6_1 + 1)))) else (none)) else (none)) = some r := by first | (rw [hji6] at H; exact H) | (simp only [hji6] at H ⊢; exact H)
            by_cases c7 : 0 ≤ (ji6)
            · rw [if_pos c7] at H
              have c7b0 : decide (0 ≤ (ji6)) = true := decide_eq_true c7
              clear c7
              by_cases c8 : (ji6) < (l1.length : Int)
              · rw [if_pos c8] at H
                have c8b0 : decide ((ji6) < (l1.length : Int)) = true := decide_eq_true c8
                clear c8
                obtain ⟨bq9, hbq9⟩ : ∃ b_ : Bool, b_ = (rdOf false l1 (ji6)) := ⟨_, rfl⟩
                replace H : (if bq9 = true then (some ji6) else (pantryref20_Next.l0 k1 a0 l1 (l1.length : Int) (wrap64 (x6_1 + 1)))) = some r := by rw [← hbq9] at H; exact H
                have Nbq9 := Aside0.mk hbq9
                clear hbq9
                by_cases c10 : bq9 = true
                · subst c10
                  have H1 : (some ji6) = some r := by rw [if_pos rfl] at H; exact H
                  clear H
                  have H := H1
                  clear H1
                  obtain rfl := Option.some.inj H
                  have p153 : 0 ≤ ((ji6) : Int) := of_decide_eq_true (by first | (with_reducible assumption) | assumption)
                  have q153 : (ji6) < (l1.length : Int) := of_decide_eq_true (by first | (with_reducible assumption) | assumption)
                  obtain ⟨ad153, e153, hx153_0⟩ := Kd.at_bool HR1.out (ji6) p153 q153
                  (try rw [← Nbq9.out] at hx153_0)
                  cases e153
                  replace p153 := eq_true p153
                  replace q153 := eq_true q153
                  go_wp2
                  go_ret
                  exact ⟨by first | rfl | (simp; done) | (simp only [← hji6] <;> (first | rfl | simp)) | (simp [*]; done), by repeat (first | exact Drawn0.refl _ | apply Drawn0.step)⟩
                · replace c10 := Bool.eq_false_iff.mpr c10
                  subst c10
                  have H1 : (pantryref20_Next.l0 k1 a0 l1 (l1.length : Int) (wrap64 (x6_1 + 1))) = some r := by rw [if_neg (show ¬ (false = true) by decide)] at H; exact H
                  clear H
                  have H := H1
                  clear H1
                  have H' := Aside0.mk H
                  clear H
                  have p153 : 0 ≤ ((ji6) : Int) := of_decide_eq_true (by first | (with_reducible assumption) | assumption)
                  have q153 : (ji6) < (l1.length : Int) := of_decide_eq_true (by first | (with_reducible assumption) | assumption)
                  obtain ⟨ad153, e153, hx153_0⟩ := Kd.at_bool HR1.out (ji6) p153 q153
                  (try rw [← Nbq9.out] at hx153_0)
                  cases e153
                  replace p153 := eq_true p153
                  replace q153 := eq_true q153
                  go_wp2
                  go_roundg k1
                  case measure => have := HK1.out; omega
                  case rel => exact ⟨(wrap64 (x6_1 + 1)), (by first | rfl | (simp; done) | (simp [*]; done)), H', ⟨by have := HK1.out; omega⟩, by repeat (first | exact Drawn0.refl _ | apply Drawn0.step)⟩
              · rw [if_neg c8] at H
                exact absurd H (by simp)
            · rw [if_neg c7] at H
              exact absurd H (by simp)
          · rw [if_neg c5] at H
            have c5b0 : decide ((Int.tmod a0 (l1.length : Int)) < 0) = false := decide_eq_false c5
            clear c5
            obtain ⟨ji11, hji11⟩ : ∃ j_ : Int, (Int.tmod (wrap64 ((Int.tmod a0 (l1.length : Int)) + x6_1)) (l1.length : Int)) = j_ := ⟨_, rfl⟩
            replace H : (if 0 ≤ (ji11) then (if (ji11) < (l1.length : Int) then (if rdOf false l1 (ji11) = true then (some ji11) else (pantryref20_Next.l0 k1 a0 l1 (l1.length : Int) (wrap64 (x6_1 + 1)))) else (none)) else (none)) = some r := by first | (rw [hji11] at H; exact H) | (simp only [hji11] at H ⊢; exact H)
            by_cases c12 : 0 ≤ (ji11)
            · rw [if_pos c12] at H
              have c12b0 : decide (0 ≤ (ji11)) = true := decide_eq_true c12
              clear c12
              by_cases c13 : (ji11) < (l1.length : Int)
              · rw [if_pos c13] at H
                have c13b0 : decide ((ji11) < (l1.length : Int)) = true := decide_eq_true c13
                clear c13
                obtain ⟨bq14, hbq14⟩ : ∃ b_ : Bool, b_ = (rdOf false l1 (ji11)) := ⟨_, rfl⟩
                replace H : (if bq14 = true then (some ji11) else (pantryref20_Next.l0 k1 a0 l1 (l1.length : Int) (wrap64 (x6_1 + 1)))) = some r := by rw [← hbq14] at H; exact H
                have Nbq14 := Aside0.mk hbq14
                clear hbq14
                by_cases c15 : bq14 = true
                · subst c15
                  have H1 : (some ji11) = some r := by rw [if_pos rfl] at H; exact H
                  clear H
                  have H := H1
                  clear H1
                  obtain rfl := Option.some.inj H
                  have p154 : 0 ≤ ((ji11) : Int) := of_decide_eq_true (by first | (with_reducible assumption) | assumption)
                  have q154 : (ji11) < (l1.length : Int) := of_decide_eq_true (by first | (with_reducible assumption) | assumption)
                  obtain ⟨ad154, e154, hx154_0⟩ := Kd.at_bool HR1.out (ji11) p154 q154
                  (try rw [← Nbq14.out] at hx154_0)
                  cases e154
                  replace p154 := eq_true p154
                  replace q154 := eq_true q154
                  go_wp2
                  go_ret
                  exact ⟨by first | rfl | (simp; done) | (simp only [← hji11] <;> (first | rfl | simp)) | (simp [*]; done), by repeat (first | exact Drawn0.refl _ | apply Drawn0.step)⟩
                · replace c15 := Bool.eq_false_iff.mpr c15
                  subst c15
                  have H1 : (pantryref20_Next.l0 k1 a0 l1 (l1.length : Int) (wrap64 (x6_1 + 1))) = some r := by rw [if_neg (show ¬ (false = true) by decide)] at H; exact H
                  clear H
                  have H := H1
                  clear H1
                  have H' := Aside0.mk H
                  clear H
                  have p154 : 0 ≤ ((ji11) : Int) := of_decide_eq_true (by first | (with_reducible assumption) | assumption)
                  have q154 : (ji11) < (l1.length : Int) := of_decide_eq_true (by first | (with_reducible assumption) | assumption)
                  obtain ⟨ad154, e154, hx154_0⟩ := Kd.at_bool HR1.out (ji11) p154 q154
                  (try rw [← Nbq14.out] at hx154_0)
                  cases e154
                  replace p154 := eq_true p154
                  replace q154 := eq_true q154
                  go_wp2
                  go_roundg k1
                  case measure => have := HK1.out; omega
                  case rel => exact ⟨(wrap64 (x6_1 + 1)), (by first | rfl | (simp; done) | (simp [*]; done)), H', ⟨by have := HK1.out; omega⟩, by repeat (first | exact Drawn0.refl _ | apply Drawn0.step)⟩
              · rw [if_neg c13] at H
                exact absurd H (by simp)
            · rw [if_neg c12] at H
              exact absurd H (by simp)
      · rw [if_neg c3] at H
        have c3b0 : decide (x6_1 < (l1.length : Int)) = false := decide_eq_false c3
        clear c3
        obtain rfl := Option.some.inj H
        go_wp2
        go_ret
        exact ⟨by first | rfl | (simp; done) | (simp [*]; done), by repeat (first | exact Drawn0.refl _ | apply Drawn0.step)⟩

end Go.Proofs.Ytbjkcplbilopeaa.OS

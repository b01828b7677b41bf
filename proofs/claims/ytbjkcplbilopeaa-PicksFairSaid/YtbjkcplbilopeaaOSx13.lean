/- Walks of the Go functions that the statement reaches: each call answers what the plain Lean function beside it says (a step on the way to the statement). Written by a program of the session's own; not a printed file. No conditions. -/
import Derived.Test.YtbjkcplbilopeaaOSx0
namespace Go.Proofs.Ytbjkcplbilopeaa.OS
open Go.RowKit Go.Proofs.YtbjkcplbilopeaaW.PrintWords Go.Proofs.YtbjkcplbilopeaaW.PrintLast Go.Proofs.YtbjkcplbilopeaaW.PrintMore
attribute [local go_sem] max2_int min2_int max_two min_two max_three min_three max_four min_four   -- for this text's walks alone
set_option linter.unusedVariables false
set_option linter.unusedSimpArgs false

/-! ### pantryref20_Fair: function 18 -/
mutual
def pantryref20_Fair.l0 : Nat → List Int → Int → Int → Int → Option (Bool)
  | 0, _, _, _, _ => none
  | k + 1, x0, x1, x2, x7 => if x7 ≤ (wrap64 ((x0.length : Int) - x2)) then (pantryref20_Fair.l1 k x0 x1 x2 x7 0) else (some true)
def pantryref20_Fair.l1 : Nat → List Int → Int → Int → Int → Int → Option (Bool)
  | 0, _, _, _, _, _ => none
  | k + 1, x0, x1, x2, x7, x8 => if x8 < x1 then (pantryref20_Fair.l2 k x0 x1 x2 x7 x8 false x7) else (pantryref20_Fair.l0 k x0 x1 x2 (wrap64 (x7 + 1)))
def pantryref20_Fair.l2 : Nat → List Int → Int → Int → Int → Int → Bool → Int → Option (Bool)
  | 0, _, _, _, _, _, _, _ => none
  | k + 1, x0, x1, x2, x7, x8, x9, x10 => if x10 < (wrap64 (x7 + x2)) then (if x9 = true then (pantryref20_Fair.l2 k x0 x1 x2 x7 x8 true (wrap64 (x10 + 1))) else (if 0 ≤ x10 then (if x10 < (x0.length : Int) then (pantryref20_Fair.l2 k x0 x1 x2 x7 x8 ((rd x0 x10) == x8) (wrap64 (x10 + 1))) else (none)) else (none))) else (if x9 = true then (pantryref20_Fair.l1 k x0 x1 x2 x7 (wrap64 (x8 + 1))) else (some false))
end
def pantryref20_Fair.f (k : Nat) (l0 : List Int) (a1 : Int) (a2 : Int) : Option (Bool) := if a1 < 1 then (some true) else (if a2 < 1 then (some false) else (pantryref20_Fair.l0 k l0 a1 a2 0))
theorem pantryref20_Fair.mono_l : ∀ k, (∀ y0 y1 y2 y3, LeO (pantryref20_Fair.l0 k y0 y1 y2 y3) (pantryref20_Fair.l0 (k + 1) y0 y1 y2 y3)) ∧ (∀ y0 y1 y2 y3 y4, LeO (pantryref20_Fair.l1 k y0 y1 y2 y3 y4) (pantryref20_Fair.l1 (k + 1) y0 y1 y2 y3 y4)) ∧ (∀ y0 y1 y2 y3 y4 y5 y6, LeO (pantryref20_Fair.l2 k y0 y1 y2 y3 y4 y5 y6) (pantryref20_Fair.l2 (k + 1) y0 y1 y2 y3 y4 y5 y6))
  | 0 => ⟨fun _ _ _ _ r h => by simp [pantryref20_Fair.l0] at h, fun _ _ _ _ _ r h => by simp [pantryref20_Fair.l1] at h, fun _ _ _ _ _ _ _ r h => by simp [pantryref20_Fair.l2] at h⟩
  | k + 1 => by
    obtain ⟨ih0, ih1, ih2⟩ := pantryref20_Fair.mono_l k
    refine ⟨?_, ?_, ?_⟩
    · intro y0 y1 y2 y3
      unfold pantryref20_Fair.l0
      repeat' first
      | (with_reducible exact ih0 _ _ _ _)
      | (with_reducible exact ih1 _ _ _ _ _)
      | (with_reducible exact ih2 _ _ _ _ _ _ _)
      | (with_reducible exact LeO.refl _)
      | (with_reducible exact LeO.none _)
      | (with_reducible refine LeO.ite ?_ ?_)
      | (with_reducible refine LeO.bind ?_ (fun _ => ?_))
      | exact ih0 _ _ _ _
      | exact ih1 _ _ _ _ _
      | exact ih2 _ _ _ _ _ _ _
      | exact LeO.none _
      | refine LeO.ite ?_ ?_
      | refine LeO.bind ?_ (fun _ => ?_)
    · intro y0 y1 y2 y3 y4
      unfold pantryref20_Fair.l1
      repeat' first
      | (with_reducible exact ih0 _ _ _ _)
      | (with_reducible exact ih1 _ _ _ _ _)
      | (with_reducible exact ih2 _ _ _ _ _ _ _)
      | (with_reducible exact LeO.refl _)
      | (with_reducible exact LeO.none _)
      | (with_reducible refine LeO.ite ?_ ?_)
      | (with_reducible refine LeO.bind ?_ (fun _ => ?_))
      | exact ih0 _ _ _ _
      | exact ih1 _ _ _ _ _
      | exact ih2 _ _ _ _ _ _ _
      | exact LeO.none _
      | refine LeO.ite ?_ ?_
      | refine LeO.bind ?_ (fun _ => ?_)
    · intro y0 y1 y2 y3 y4 y5 y6
      unfold pantryref20_Fair.l2
      repeat' first
      | (with_reducible exact ih0 _ _ _ _)
      | (with_reducible exact ih1 _ _ _ _ _)
      | (with_reducible exact ih2 _ _ _ _ _ _ _)
      | (with_reducible exact LeO.refl _)
      | (with_reducible exact LeO.none _)
      | (with_reducible refine LeO.ite ?_ ?_)
      | (with_reducible refine LeO.bind ?_ (fun _ => ?_))
      | exact ih0 _ _ _ _
      | exact ih1 _ _ _ _ _
      | exact ih2 _ _ _ _ _ _ _
      | exact LeO.none _
      | refine LeO.ite ?_ ?_
      | refine LeO.bind ?_ (fun _ => ?_)
theorem pantryref20_Fair.mono : ∀ a0 a1 a2 k, LeO (pantryref20_Fair.f k a0 a1 a2) (pantryref20_Fair.f (k + 1) a0 a1 a2) := by
  intro a0 a1 a2 k
  obtain ⟨ih0, ih1, ih2⟩ := pantryref20_Fair.mono_l k
  unfold pantryref20_Fair.f
  repeat' first
      | (with_reducible exact ih0 _ _ _ _)
      | (with_reducible exact ih1 _ _ _ _ _)
      | (with_reducible exact ih2 _ _ _ _ _ _ _)
      | (with_reducible exact LeO.refl _)
      | (with_reducible exact LeO.none _)
      | (with_reducible refine LeO.ite ?_ ?_)
      | (with_reducible refine LeO.bind ?_ (fun _ => ?_))
      | exact ih0 _ _ _ _
      | exact ih1 _ _ _ _ _
      | exact ih2 _ _ _ _ _ _ _
      | exact LeO.none _
      | refine LeO.ite ?_ ?_
      | refine LeO.bind ?_ (fun _ => ?_)
set_option maxHeartbeats 8000000 in
set_option maxRecDepth 100000 in
theorem pantryref20_Fair.calls (k : Nat) (A0 : Option Addr) (c0 : Nat) (l0 : List Int) (a1 : Int) (a2 : Int) (r : Bool) (w : World) (hr0 : Kd.C (Kd.int .i64) w A0 l0.length l0) (hc0 : l0.length ≤ c0) (h : pantryref20_Fair.f k l0 a1 a2 = some r) :
    Calls Try.prog 18 #[.slice A0 l0.length c0, .int .i64 a1, .int .i64 a2] w fun e w' => e = .returned (.bool r) ∧ Drawn0 w w' := by
  have HR0 := Aside0.mk hr0
  have HC0 := Aside0.mk hc0
  clear hr0 hc0
  have H : (if a1 < 1 then (some true) else (if a2 < 1 then (some false) else (pantryref20_Fair.l0 k l0 a1 a2 0))) = some r := h
  clear h
  by_cases c4 : a1 < 1
  · rw [if_pos c4] at H
    have c4b0 : decide (a1 < 1) = true := decide_eq_true c4
    clear c4
    obtain rfl := Option.some.inj H
    go_enter Try.func18, Try.ntmps18
    go_wp2
    go_ret
    exact ⟨by first | rfl | (simp; done) | (simp [*]; done), by repeat (first | exact Drawn0.refl _ | apply Drawn0.step)⟩
  · rw [if_neg c4] at H
    have c4b0 : decide (a1 < 1) = false := decide_eq_false c4
    clear c4
    by_cases c5 : a2 < 1
    · rw [if_pos c5] at H
      have c5b0 : decide (a2 < 1) = true := decide_eq_true c5
      clear c5
      obtain rfl := Option.some.inj H
      go_enter Try.func18, Try.ntmps18
      go_wp2
      go_ret
      exact ⟨by first | rfl | (simp; done) | (simp [*]; done), by repeat (first | exact Drawn0.refl _ | apply Drawn0.step)⟩
    · rw [if_neg c5] at H
      have c5b0 : decide (a2 < 1) = false := decide_eq_false c5
      clear c5
      have H' := Aside0.mk H
      clear H
      go_enter Try.func18, Try.ntmps18
      go_wp2
      go_loopg [7] k (fun kq v7 w' => ∃ (x7_1 : Int), v7 = .int .i64 x7_1 ∧ Aside0 (pantryref20_Fair.l0 kq l0 a1 a2 x7_1 = some r) ∧ Aside0 (kq ≤ k) ∧ Drawn0 w w')
      case atStart => exact ⟨(0), (by first | rfl | (simp; done) | (simp [*]; done)), H', ⟨Nat.le_refl _⟩, by repeat (first | exact Drawn0.refl _ | apply Drawn0.step)⟩
      case round =>
        clear H'
        try clear c1
        try clear p2
        try clear c4
        try clear c4b0
        try clear c5
        try clear c5b0
        obtain ⟨x7_1, rfl, HA, HK1, ⟨m1, rfl⟩⟩ := hrel
        cases gk with
        | zero => exact absurd HA.out (by simp [pantryref20_Fair.l0])
        | succ k1 =>
          have H := HA.out
          clear HA
          simp only [pantryref20_Fair.l0] at H
          by_cases c6 : x7_1 ≤ (wrap64 ((l0.length : Int) - a2))
          · rw [if_pos c6] at H
            have c6b0 : decide (x7_1 ≤ (wrap64 ((l0.length : Int) - a2))) = true := decide_eq_true c6
            clear c6
            have H' := Aside0.mk H
            clear H
            go_wp2
            go_loopg [8] k1 (fun kq v8 w' => ∃ (x8_2 : Int), v8 = .int .i64 x8_2 ∧ Aside0 (pantryref20_Fair.l1 kq l0 a1 a2 x7_1 x8_2 = some r) ∧ Aside0 (kq ≤ k1) ∧ Drawn0 w w')
            case atStart => exact ⟨(0), (by first | rfl | (simp; done) | (simp [*]; done)), H', ⟨Nat.le_refl _⟩, by repeat (first | exact Drawn0.refl _ | apply Drawn0.step)⟩
            case round =>
              clear H'
              try clear c1
              try clear p2
              try clear c4
              try clear c4b0
              try clear c5
              try clear c5b0
              try clear c6
              try clear c6b0
              try clear p6
              try clear p2
              obtain ⟨x8_2, rfl, HA, HK2, ⟨m2, rfl⟩⟩ := hrel
              cases gk with
              | zero => exact absurd HA.out (by simp [pantryref20_Fair.l1])
              | succ k2 =>
                have H := HA.out
                clear HA
                simp only [pantryref20_Fair.l1] at H
                by_cases c7 : x8_2 < a1
                · rw [if_pos c7] at H
                  have c7b0 : decide (x8_2 < a1) = true := decide_eq_true c7
                  clear c7
                  have H' := Aside0.mk H
                  clear H
                  go_wp2
                  go_loopg [9, 10] k2 (fun kq v9 v10 w' => ∃ (x9_3 : Bool) (x10_3 : Int), v9 = .bool x9_3 ∧ v10 = .int .i64 x10_3 ∧ Aside0 (pantryref20_Fair.l2 kq l0 a1 a2 x7_1 x8_2 x9_3 x10_3 = some r) ∧ Aside0 (kq ≤ k2) ∧ Drawn0 w w')
                  case atStart => exact ⟨(false), (x7_1), (by first | rfl | (simp; done) | (simp [*]; done)), (by first | rfl | (simp; done) | (simp [*]; done)), H', ⟨Nat.le_refl _⟩, by repeat (first | exact Drawn0.refl _ | apply Drawn0.step)⟩
                  case round =>
                    clear H'
                    try clear c1
                    try clear p2
                    try clear c4
                    try clear c4b0
                    try clear c5
                    try clear c5b0
                    try clear c6
                    try clear c6b0
                    try clear p6
                    try clear c7
                    try clear c7b0
                    try clear p2
                    try clear p6
                    obtain ⟨x9_3, x10_3, rfl, rfl, HA, HK3, ⟨m3, rfl⟩⟩ := hrel
                    cases gk with
                    | zero => exact absurd HA.out (by simp [pantryref20_Fair.l2])
                    | succ k3 =>
                      have H := HA.out
                      clear HA
                      simp only [pantryref20_Fair.l2] at H
                      by_cases c8 : x10_3 < (wrap64 (x7_1 + a2))
                      · rw [if_pos c8] at H
                        have c8b0 : decide (x10_3 < (wrap64 (x7_1 + a2))) = true := decide_eq_true c8
                        clear c8
                        by_cases c9 : x9_3 = true
                        · subst c9
                          have H1 : (pantryref20_Fair.l2 k3 l0 a1 a2 x7_1 x8_2 true (wrap64 (x10_3 + 1))) = some r := by rw [if_pos rfl] at H; exact H
                          clear H
                          have H := H1
                          clear H1
                          have H' := Aside0.mk H
                          clear H
                          go_wp2
                          go_roundg k3
                          case measure => have := HK1.out; have := HK2.out; have := HK3.out; omega
                          case rel => exact ⟨(true), (wrap64 (x10_3 + 1)), (by first | rfl | (simp; done) | (simp [*]; done)), (by first | rfl | (simp; done) | (simp [*]; done)), H', ⟨by have := HK1.out; have := HK2.out; have := HK3.out; omega⟩, by repeat (first | exact Drawn0.refl _ | apply Drawn0.step)⟩
                        · replace c9 := Bool.eq_false_iff.mpr c9
                          subst c9
                          have H1 : (if 0 ≤ x10_3 then (if x10_3 < (l0.length : Int) then (pantryref20_Fair.l2 k3 l0 a1 a2 x7_1 x8_2 ((rd l0 x10_3) == x8_2) (wrap64 (x10_3 + 1))) else (none)) else (none)) = some r := by rw [if_neg (show ¬ (false = true) by decide)] at H; exact H
                          clear H
                          have H := H1
                          clear H1
                          by_cases c10 : 0 ≤ x10_3
                          · rw [if_pos c10] at H
                            have c10b0 : decide (0 ≤ x10_3) = true := decide_eq_true c10
                            clear c10
                            by_cases c11 : x10_3 < (l0.length : Int)
                            · rw [if_pos c11] at H
                              have c11b0 : decide (x10_3 < (l0.length : Int)) = true := decide_eq_true c11
                              clear c11
                              have H' := Aside0.mk H
                              clear H
                              have p190 : 0 ≤ (x10_3 : Int) := of_decide_eq_true (by first | (with_reducible assumption) | assumption)
                              have q190 : x10_3 < (l0.length : Int) := of_decide_eq_true (by first | (with_reducible assumption) | assumption)
                              obtain ⟨ad190, e190, hx190_0⟩ := Kd.at_int HR0.out x10_3 p190 q190
                              cases e190
                              replace p190 := eq_true p190
                              replace q190 := eq_true q190
                              go_wp2
                              go_roundg k3
                              case measure => have := HK1.out; have := HK2.out; have := HK3.out; omega
                              case rel => exact ⟨(((rd l0 x10_3) == x8_2)), (wrap64 (x10_3 + 1)), (by first | rfl | (simp; done) | (simp [*]; done)), (by first | rfl | (simp; done) | (simp [*]; done)), H', ⟨by have := HK1.out; have := HK2.out; have := HK3.out; omega⟩, by repeat (first | exact Drawn0.refl _ | apply Drawn0.step)⟩
                            · rw [if_neg c11] at H
                              exact absurd H (by simp)
                          · rw [if_neg c10] at H
                            exact absurd H (by simp)
                      · rw [if_neg c8] at H
                        have c8b0 : decide (x10_3 < (wrap64 (x7_1 + a2))) = false := decide_eq_false c8
                        clear c8
                        by_cases c12 : x9_3 = true
                        · subst c12
                          have H1 : (pantryref20_Fair.l1 k3 l0 a1 a2 x7_1 (wrap64 (x8_2 + 1))) = some r := by rw [if_pos rfl] at H; exact H
                          clear H
                          have H := H1
                          clear H1
                          have H' := Aside0.mk H
                          clear H
                          go_wp2
                          go_roundg k3
                          case measure => have := HK1.out; have := HK2.out; have := HK3.out; omega
                          case rel => exact ⟨(wrap64 (x8_2 + 1)), (by first | rfl | (simp; done) | (simp [*]; done)), H', ⟨by have := HK1.out; have := HK2.out; have := HK3.out; omega⟩, by repeat (first | exact Drawn0.refl _ | apply Drawn0.step)⟩
                        · replace c12 := Bool.eq_false_iff.mpr c12
                          subst c12
                          have H1 : (some false) = some r := by rw [if_neg (show ¬ (false = true) by decide)] at H; exact H
                          clear H
                          have H := H1
                          clear H1
                          obtain rfl := Option.some.inj H
                          go_wp2
                          go_ret
                          exact ⟨by first | rfl | (simp; done) | (simp [*]; done), by repeat (first | exact Drawn0.refl _ | apply Drawn0.step)⟩
                · rw [if_neg c7] at H
                  have c7b0 : decide (x8_2 < a1) = false := decide_eq_false c7
                  clear c7
                  have H' := Aside0.mk H
                  clear H
                  go_wp2
                  go_roundg k2
                  case measure => have := HK1.out; have := HK2.out; omega
                  case rel => exact ⟨(wrap64 (x7_1 + 1)), (by first | rfl | (simp; done) | (simp [*]; done)), H', ⟨by have := HK1.out; have := HK2.out; omega⟩, by repeat (first | exact Drawn0.refl _ | apply Drawn0.step)⟩
          · rw [if_neg c6] at H
            have c6b0 : decide (x7_1 ≤ (wrap64 ((l0.length : Int) - a2))) = false := decide_eq_false c6
            clear c6
            obtain rfl := Option.some.inj H
            go_wp2
            go_ret
            exact ⟨by first | rfl | (simp; done) | (simp [*]; done), by repeat (first | exact Drawn0.refl _ | apply Drawn0.step)⟩

end Go.Proofs.Ytbjkcplbilopeaa.OS

/- Walks of the Go functions that the statement reaches: each call answers what the plain Lean function beside it says (a step on the way to the statement). Written by a program of the session's own; not a printed file. No conditions. -/
import Derived.Test.YtlnekfodkeifkaaDoorOCx0
namespace Go.Proofs.YtlnekfodkeifkaaDoor.OC
open Go.RowKit Go.Proofs.YtlnekfodkeifkaaDoorW.PrintWords Go.Proofs.YtlnekfodkeifkaaDoorW.PrintLast Go.Proofs.YtlnekfodkeifkaaDoorW.PrintMore
attribute [local go_sem] max2_int min2_int max_two min_two max_three min_three max_four min_four   -- for this text's walks alone
set_option linter.unusedVariables false
set_option linter.unusedSimpArgs false

/-! ### pantryref01_power: function 32 -/
def pantryref01_power.l0 : Nat → Int → Option (Bool)
  | 0, _ => none
  | k + 1, x0 => if x0 > 1 then (if (Int.tmod x0 2) = 0 then (pantryref01_power.l0 k (wrap64 (Int.tdiv x0 2))) else (some (x0 == 1))) else (some (x0 == 1))
def pantryref01_power.f (k : Nat) (a0 : Int) : Option (Bool) := pantryref01_power.l0 k a0
theorem pantryref01_power.mono_l : ∀ k, (∀ y0, LeO (pantryref01_power.l0 k y0) (pantryref01_power.l0 (k + 1) y0))
  | 0 => fun _ r h => by simp [pantryref01_power.l0] at h
  | k + 1 => by
    have ih0 := pantryref01_power.mono_l k
    · intro y0
      unfold pantryref01_power.l0
      repeat' first
      | (with_reducible exact ih0 _)
      | (with_reducible exact LeO.refl _)
      | (with_reducible exact LeO.none _)
      | (with_reducible refine LeO.ite ?_ ?_)
      | (with_reducible refine LeO.bind ?_ (fun _ => ?_))
      | exact ih0 _
      | exact LeO.none _
      | refine LeO.ite ?_ ?_
      | refine LeO.bind ?_ (fun _ => ?_)
theorem pantryref01_power.mono : ∀ a0 k, LeO (pantryref01_power.f k a0) (pantryref01_power.f (k + 1) a0) := by
  intro a0 k
  have ih0 := pantryref01_power.mono_l k
  unfold pantryref01_power.f
  repeat' first
      | (with_reducible exact ih0 _)
      | (with_reducible exact LeO.refl _)
      | (with_reducible exact LeO.none _)
      | (with_reducible refine LeO.ite ?_ ?_)
      | (with_reducible refine LeO.bind ?_ (fun _ => ?_))
      | exact ih0 _
      | exact LeO.none _
      | refine LeO.ite ?_ ?_
      | refine LeO.bind ?_ (fun _ => ?_)
set_option maxHeartbeats 8000000 in
set_option maxRecDepth 100000 in
theorem pantryref01_power.calls (k : Nat) (a0 : Int) (r : Bool) (w : World) (h : pantryref01_power.f k a0 = some r) :
    Calls Tryd.prog 32 #[.int .i64 a0] w fun e w' => e = .returned (.bool r) ∧ Drawn0 w w' := by
  have H : (pantryref01_power.l0 k a0) = some r := h
  clear h
  have H' := Aside0.mk H
  clear H
  go_enter Tryd.func32, Tryd.ntmps32
  go_wp2
  go_loopg [0] k (fun kq v0 w' => ∃ (x0_1 : Int), v0 = .int .i64 x0_1 ∧ Aside0 (pantryref01_power.l0 kq x0_1 = some r) ∧ Aside0 (kq ≤ k) ∧ Drawn0 w w')
  case atStart => exact ⟨(a0), (by first | rfl | (simp; done) | (simp [*]; done)), H', ⟨Nat.le_refl _⟩, by repeat (first | exact Drawn0.refl _ | apply Drawn0.step)⟩
  case round =>
    clear H'
    obtain ⟨x0_1, rfl, HA, HK1, ⟨m1, rfl⟩⟩ := hrel
    cases gk with
    | zero => exact absurd HA.out (by simp [pantryref01_power.l0])
    | succ k1 =>
      have H := HA.out
      clear HA
      simp only [pantryref01_power.l0] at H
      by_cases c2 : x0_1 > 1
      · rw [if_pos c2] at H
        have c2b0 : decide (1 < x0_1) = true := decide_eq_true c2
        clear c2
        by_cases c3 : (Int.tmod x0_1 2) = 0
        · rw [if_pos c3] at H
          have c3b0 : ((Int.tmod x0_1 2) == 0) = true := beq_iff_eq.mpr c3
          have c3b1 : ((Int.tmod x0_1 2) != 0) = false := bne_eq_false_iff_eq.mpr c3
          clear c3
          have H' := Aside0.mk H
          clear H
          go_wp2
          go_roundg k1
          case measure => have := HK1.out; omega
          case rel => exact ⟨(wrap64 (Int.tdiv x0_1 2)), (by first | rfl | (simp; done) | (simp [*]; done)), H', ⟨by have := HK1.out; omega⟩, by repeat (first | exact Drawn0.refl _ | apply Drawn0.step)⟩
        · rw [if_neg c3] at H
          have c3b0 : ((Int.tmod x0_1 2) == 0) = false := beq_eq_false_iff_ne.mpr c3
          have c3b1 : ((Int.tmod x0_1 2) != 0) = true := bne_iff_ne.mpr c3
          obtain rfl := Option.some.inj H
          go_wp2
          go_ret
          exact ⟨by first | rfl | (simp; done) | (simp [*]; done), by repeat (first | exact Drawn0.refl _ | apply Drawn0.step)⟩
      · rw [if_neg c2] at H
        have c2b0 : decide (1 < x0_1) = false := decide_eq_false c2
        clear c2
        obtain rfl := Option.some.inj H
        go_wp2
        go_ret
        exact ⟨by first | rfl | (simp; done) | (simp [*]; done), by repeat (first | exact Drawn0.refl _ | apply Drawn0.step)⟩

end Go.Proofs.YtlnekfodkeifkaaDoor.OC

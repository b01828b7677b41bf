/- Walks of the Go functions that the statement reaches: each call answers what the plain Lean function beside it says (a step on the way to the statement). Written by a program of the session's own; not a printed file. No conditions. -/
import Derived.Test.YtlnekfodkeifkaaDoorOCx0
import Derived.Test.YtlnekfodkeifkaaDoorOCx3
namespace Go.Proofs.YtlnekfodkeifkaaDoor.OC
open Go.RowKit Go.Proofs.YtlnekfodkeifkaaDoorW.PrintWords Go.Proofs.YtlnekfodkeifkaaDoorW.PrintLast Go.Proofs.YtlnekfodkeifkaaDoorW.PrintMore
attribute [local go_sem] max2_int min2_int max_two min_two max_three min_three max_four min_four   -- for this text's walks alone
set_option linter.unusedVariables false
set_option linter.unusedSimpArgs false

/-! ### pantryref01_Ceil: function 29 -/
mutual
def pantryref01_Ceil.j0 : Nat → Int → Int → Int → Bool → Option (Int)
  | 0, _, _, _, _ => none
  | k + 1, x0, x1, x2, x24 => if x24 = true then (some 0) else (pantryref01_Ceil.l0 k x0 x2 x1)
def pantryref01_Ceil.l0 : Nat → Int → Int → Int → Option (Int)
  | 0, _, _, _ => none
  | k + 1, x0, x2, x9 => if x9 < x0 then (if x9 < x2 then (pantryref01_Ceil.l0 k x0 x2 (wrap64 (2 * x9))) else (some x9)) else (some x9)
end
def pantryref01_Ceil.f (k : Nat) (a0 : Int) (a1 : Int) (a2 : Int) : Option (Int) := (pantryref01_power.f k a1).bind fun t103 => ((pantryref01_power.f k a2).bind fun t104 => (if t103 = true then (if t104 = true then (pantryref01_Ceil.j0 k a0 a1 a2 (decide (a1 > a2))) else (pantryref01_Ceil.j0 k a0 a1 a2 true)) else (pantryref01_Ceil.j0 k a0 a1 a2 true)))
theorem pantryref01_Ceil.mono_l : ∀ k, (∀ y0 y1 y2 y3, LeO (pantryref01_Ceil.j0 k y0 y1 y2 y3) (pantryref01_Ceil.j0 (k + 1) y0 y1 y2 y3)) ∧ (∀ y0 y1 y2, LeO (pantryref01_Ceil.l0 k y0 y1 y2) (pantryref01_Ceil.l0 (k + 1) y0 y1 y2))
  | 0 => ⟨fun _ _ _ _ r h => by simp [pantryref01_Ceil.j0] at h, fun _ _ _ r h => by simp [pantryref01_Ceil.l0] at h⟩
  | k + 1 => by
    obtain ⟨ih0, ih1⟩ := pantryref01_Ceil.mono_l k
    refine ⟨?_, ?_⟩
    · intro y0 y1 y2 y3
      unfold pantryref01_Ceil.j0
      repeat' first
      | (with_reducible exact ih0 _ _ _ _)
      | (with_reducible exact ih1 _ _ _)
      | (with_reducible exact pantryref01_power.mono _ _)
      | (with_reducible exact LeO.refl _)
      | (with_reducible exact LeO.none _)
      | (with_reducible refine LeO.ite ?_ ?_)
      | (with_reducible refine LeO.bind ?_ (fun _ => ?_))
      | exact ih0 _ _ _ _
      | exact ih1 _ _ _
      | exact pantryref01_power.mono _ _
      | exact LeO.none _
      | refine LeO.ite ?_ ?_
      | refine LeO.bind ?_ (fun _ => ?_)
    · intro y0 y1 y2
      unfold pantryref01_Ceil.l0
      repeat' first
      | (with_reducible exact ih0 _ _ _ _)
      | (with_reducible exact ih1 _ _ _)
      | (with_reducible exact pantryref01_power.mono _ _)
      | (with_reducible exact LeO.refl _)
      | (with_reducible exact LeO.none _)
      | (with_reducible refine LeO.ite ?_ ?_)
      | (with_reducible refine LeO.bind ?_ (fun _ => ?_))
      | exact ih0 _ _ _ _
      | exact ih1 _ _ _
      | exact pantryref01_power.mono _ _
      | exact LeO.none _
      | refine LeO.ite ?_ ?_
      | refine LeO.bind ?_ (fun _ => ?_)
theorem pantryref01_Ceil.mono : ∀ a0 a1 a2 k, LeO (pantryref01_Ceil.f k a0 a1 a2) (pantryref01_Ceil.f (k + 1) a0 a1 a2) := by
  intro a0 a1 a2 k
  obtain ⟨ih0, ih1⟩ := pantryref01_Ceil.mono_l k
  unfold pantryref01_Ceil.f
  repeat' first
      | (with_reducible exact ih0 _ _ _ _)
      | (with_reducible exact ih1 _ _ _)
      | (with_reducible exact pantryref01_power.mono _ _)
      | (with_reducible exact LeO.refl _)
      | (with_reducible exact LeO.none _)
      | (with_reducible refine LeO.ite ?_ ?_)
      | (with_reducible refine LeO.bind ?_ (fun _ => ?_))
      | exact ih0 _ _ _ _
      | exact ih1 _ _ _
      | exact pantryref01_power.mono _ _
      | exact LeO.none _
      | refine LeO.ite ?_ ?_
      | refine LeO.bind ?_ (fun _ => ?_)
set_option maxHeartbeats 8000000 in
set_option maxRecDepth 100000 in
theorem pantryref01_Ceil.calls (k : Nat) (a0 : Int) (a1 : Int) (a2 : Int) (r : Int) (w : World) (h : pantryref01_Ceil.f k a0 a1 a2 = some r) :
    Calls Tryd.prog 29 #[.int .i64 a0, .int .i64 a1, .int .i64 a2] w fun e w' => e = .returned (.int .i64 r) ∧ Drawn0 w w' := by
  have H : ((pantryref01_power.f k a1).bind fun t103 => ((pantryref01_power.f k a2).bind fun t104 => (if t103 = true then (if t104 = true then (pantryref01_Ceil.j0 k a0 a1 a2 (decide (a1 > a2))) else (pantryref01_Ceil.j0 k a0 a1 a2 true)) else (pantryref01_Ceil.j0 k a0 a1 a2 true)))) = some r := h
  clear h
  replace H := Option.bind_eq_some_iff.mp H
  obtain ⟨t103, A40, H⟩ := H
  replace H : ((pantryref01_power.f k a2).bind fun t104 => (if t103 = true then (if t104 = true then (pantryref01_Ceil.j0 k a0 a1 a2 (decide (a1 > a2))) else (pantryref01_Ceil.j0 k a0 a1 a2 true)) else (pantryref01_Ceil.j0 k a0 a1 a2 true))) = some r := H
  have A4 := Aside0.mk A40
  clear A40
  replace H := Option.bind_eq_some_iff.mp H
  obtain ⟨t104, A50, H⟩ := H
  replace H : (if t103 = true then (if t104 = true then (pantryref01_Ceil.j0 k a0 a1 a2 (decide (a1 > a2))) else (pantryref01_Ceil.j0 k a0 a1 a2 true)) else (pantryref01_Ceil.j0 k a0 a1 a2 true)) = some r := H
  have A5 := Aside0.mk A50
  clear A50
  have HC6 := Aside0.mk H
  clear H
  go_enter Tryd.func29, Tryd.ntmps29
  go_upto_region 3 with (first | ((with_reducible refine gate_callee (f := 32) rfl ?_); refine goesL_ (some 11) rfl rfl Tryd.func32 (by kernel_rfl) rfl #[.int .i64 a1] rfl (by (try simp only [List.map_toArray, List.map_cons, List.map_nil]); first | done | rfl | (simp only [List.length_drop, List.length_take]; rfl)) ?_; (with_reducible refine (pantryref01_power.calls k a1 t103 _ A4.out).mono ?_); rintro e w' ⟨rfl, ⟨nd, rfl⟩⟩; refine ⟨_, rfl, ?_⟩) | ((with_reducible refine gate_callee (f := 32) rfl ?_); refine goesL_ (some 13) rfl rfl Tryd.func32 (by kernel_rfl) rfl #[.int .i64 a2] rfl (by (try simp only [List.map_toArray, List.map_cons, List.map_nil]); first | done | rfl | (simp only [List.length_drop, List.length_take]; rfl)) ?_; (with_reducible refine (pantryref01_power.calls k a2 t104 _ A5.out).mono ?_); rintro e w' ⟨rfl, ⟨nd, rfl⟩⟩; refine ⟨_, rfl, ?_⟩))
  (try simp only [Act.put, List.setIfInBounds_toArray, List.set_cons_zero, List.set_cons_succ])
  go_cut [24] (fun v24 wc => ∃ (kq : Nat) (x24_5 : Bool), v24 = .bool x24_5 ∧ Aside0 (pantryref01_Ceil.j0 kq a0 a1 a2 x24_5 = some r) ∧ Aside0 (kq ≤ k) ∧ Drawn0 w wc)
  case first =>
    have H := HC6.out
    clear HC6
    by_cases c7 : t103 = true
    · subst c7
      have H1 : (if t104 = true then (pantryref01_Ceil.j0 k a0 a1 a2 (decide (a1 > a2))) else (pantryref01_Ceil.j0 k a0 a1 a2 true)) = some r := by rw [if_pos rfl] at H; exact H
      clear H
      have H := H1
      clear H1
      by_cases c8 : t104 = true
      · subst c8
        have H1 : (pantryref01_Ceil.j0 k a0 a1 a2 (decide (a1 > a2))) = some r := by rw [if_pos rfl] at H; exact H
        clear H
        have H := H1
        clear H1
        have H' := Aside0.mk H
        clear H
        go_wp2
        go_meet
        case rel => exact ⟨_, (decide (a1 > a2)), (by first | rfl | (simp; done) | (simp [*]; done)), H', ⟨by first | omega | exact Nat.le_refl _⟩, by repeat (first | exact Drawn0.refl _ | apply Drawn0.step)⟩
      · replace c8 := Bool.eq_false_iff.mpr c8
        subst c8
        have H1 : (pantryref01_Ceil.j0 k a0 a1 a2 true) = some r := by rw [if_neg (show ¬ (false = true) by decide)] at H; exact H
        clear H
        have H := H1
        clear H1
        have H' := Aside0.mk H
        clear H
        go_wp2
        go_meet
        case rel => exact ⟨_, (true), (by first | rfl | (simp; done) | (simp [*]; done)), H', ⟨by first | omega | exact Nat.le_refl _⟩, by repeat (first | exact Drawn0.refl _ | apply Drawn0.step)⟩
    · replace c7 := Bool.eq_false_iff.mpr c7
      subst c7
      have H1 : (pantryref01_Ceil.j0 k a0 a1 a2 true) = some r := by rw [if_neg (show ¬ (false = true) by decide)] at H; exact H
      clear H
      have H := H1
      clear H1
      have H' := Aside0.mk H
      clear H
      go_wp2
      go_meet
      case rel => exact ⟨_, (true), (by first | rfl | (simp; done) | (simp [*]; done)), H', ⟨by first | omega | exact Nat.le_refl _⟩, by repeat (first | exact Drawn0.refl _ | apply Drawn0.step)⟩
  case rest =>
    clear HC6
    try clear c2
    try clear p2
    try clear c3
    try clear c7
    try clear c8
    obtain ⟨kq, x24_5, rfl, HA, HJ5, ⟨mc5, rfl⟩⟩ := hcut
    cases kq with
    | zero => exact absurd HA.out (by simp [pantryref01_Ceil.j0])
    | succ kj5 =>
      have H := HA.out
      clear HA
      simp only [pantryref01_Ceil.j0] at H
      by_cases c9 : x24_5 = true
      · subst c9
        have H1 : (some 0) = some r := by rw [if_pos rfl] at H; exact H
        clear H
        have H := H1
        clear H1
        obtain rfl := Option.some.inj H
        go_wp2
        go_ret
        exact ⟨by first | rfl | (simp; done) | (simp [*]; done), by repeat (first | exact Drawn0.refl _ | apply Drawn0.step)⟩
      · replace c9 := Bool.eq_false_iff.mpr c9
        subst c9
        have H1 : (pantryref01_Ceil.l0 kj5 a0 a2 a1) = some r := by rw [if_neg (show ¬ (false = true) by decide)] at H; exact H
        clear H
        have H := H1
        clear H1
        have H' := Aside0.mk H
        clear H
        go_wp2
        go_loopg [9] kj5 (fun kq v9 w' => ∃ (x9_2 : Int), v9 = .int .i64 x9_2 ∧ Aside0 (pantryref01_Ceil.l0 kq a0 a2 x9_2 = some r) ∧ Aside0 (kq ≤ kj5) ∧ Drawn0 w w')
        case atStart => exact ⟨(a1), (by first | rfl | (simp; done) | (simp [*]; done)), H', ⟨Nat.le_refl _⟩, by repeat (first | exact Drawn0.refl _ | apply Drawn0.step)⟩
        case round =>
          clear H'
          try clear c2
          try clear p2
          try clear c3
          try clear c5
          try clear c7
          try clear c8
          try clear c9
          try clear p2
          obtain ⟨x9_2, rfl, HA, HK2, ⟨m2, rfl⟩⟩ := hrel
          cases gk with
          | zero => exact absurd HA.out (by simp [pantryref01_Ceil.l0])
          | succ k2 =>
            have H := HA.out
            clear HA
            simp only [pantryref01_Ceil.l0] at H
            by_cases c10 : x9_2 < a0
            · rw [if_pos c10] at H
              have c10b0 : decide (x9_2 < a0) = true := decide_eq_true c10
              clear c10
              by_cases c11 : x9_2 < a2
              · rw [if_pos c11] at H
                have c11b0 : decide (x9_2 < a2) = true := decide_eq_true c11
                clear c11
                have H' := Aside0.mk H
                clear H
                go_wp2
                go_roundg k2
                case measure => have := HJ5.out; have := HK2.out; omega
                case rel => exact ⟨(wrap64 (2 * x9_2)), (by first | rfl | (simp; done) | (simp [*]; done)), H', ⟨by have := HJ5.out; have := HK2.out; omega⟩, by repeat (first | exact Drawn0.refl _ | apply Drawn0.step)⟩
              · rw [if_neg c11] at H
                have c11b0 : decide (x9_2 < a2) = false := decide_eq_false c11
                clear c11
                obtain rfl := Option.some.inj H
                go_wp2
                go_ret
                exact ⟨by first | rfl | (simp; done) | (simp [*]; done), by repeat (first | exact Drawn0.refl _ | apply Drawn0.step)⟩
            · rw [if_neg c10] at H
              have c10b0 : decide (x9_2 < a0) = false := decide_eq_false c10
              clear c10
              obtain rfl := Option.some.inj H
              go_wp2
              go_ret
              exact ⟨by first | rfl | (simp; done) | (simp [*]; done), by repeat (first | exact Drawn0.refl _ | apply Drawn0.step)⟩

end Go.Proofs.YtlnekfodkeifkaaDoor.OC

/- Walks of the Go functions that the statement reaches: each call answers what the plain Lean function beside it says (a step on the way to the statement). Written by a program of the session's own; not a printed file. No conditions. -/
import Derived.Test.YthnkpglljmglaaaOSx0
import Derived.Test.YthnkpglljmglaaaOSx1
import Derived.Test.YthnkpglljmglaaaOSx2
import Derived.Test.YthnkpglljmglaaaOSx5
import Derived.Test.YthnkpglljmglaaaOSx6
import Derived.Test.YthnkpglljmglaaaOSx7
import Derived.Test.YthnkpglljmglaaaOSx9
namespace Go.Proofs.Ythnkpglljmglaaa.OS
open Go.RowKit Go.Proofs.YthnkpglljmglaaaW.PrintWords Go.Proofs.YthnkpglljmglaaaW.PrintLast Go.Proofs.YthnkpglljmglaaaW.PrintMore
attribute [local go_sem] max2_int min2_int max_two min_two max_three min_three max_four min_four   -- for this text's walks alone
set_option linter.unusedVariables false
set_option linter.unusedSimpArgs false

/-! ### pantrylaw17_StatusRounds: function 6 -/
mutual
def pantrylaw17_StatusRounds.j0 : Nat → Int → Bool → Int → Bool → Option (Bool)
  | 0, _, _, _, _ => none
  | k + 1, x1, x5, x6, x27 => if x27 = true then (some x5) else ((status_Start.f x6).bind fun t232 => (pantrylaw17_StatusRounds.l0 k x1 x5 x6 t232 0))
def pantrylaw17_StatusRounds.l0 : Nat → Int → Bool → Int → Int → Int → Option (Bool)
  | 0, _, _, _, _, _ => none
  | k + 1, x1, x5, x6, x7, x8 => if x8 < x1 then ((status_Wrote.f x7).bind fun t233 => (pantrylaw17_StatusRounds.l0 k x1 x5 x6 t233 (wrap64 (x8 + 1)))) else ((status_Finish.f k x7 false).bind fun t234 => (if x1 > 0 then (pantrylaw17_StatusRounds.j2 k x1 x5 x6 x7 t234 1) else (pantrylaw17_StatusRounds.j2 k x1 x5 x6 x7 t234 0)))
def pantrylaw17_StatusRounds.j2 : Nat → Int → Bool → Int → Int → Int → Int → Option (Bool)
  | 0, _, _, _, _, _, _ => none
  | k + 1, x1, x5, x6, x7, x9, x10 => (status_Wrote.f x6).bind fun t235 => (if x5 = true then (if x9 = x10 then ((status_Busy.f x7).bind fun t236 => (if t236 = true then ((status_Busy.f x9).bind fun t237 => (if t237 = true then (some false) else ((status_Wrote.f t235).bind fun t238 => (if t238 = t235 then ((status_Should.f t235 false).bind fun t239 => ((status_Busy.f x6).bind fun t240 => (if (t239 == (!t240)) = true then ((status_Should.f x9 false).bind fun t241 => (some (t241 == (decide (x1 > 0))))) else (some false)))) else (some false))))) else (some false))) else (some false)) else (some false))
end
def pantrylaw17_StatusRounds.f (k : Nat) (a0 : Int) (a1 : Int) : Option (Bool) := (pantrylaw17_small.f k).bind fun t231 => (if a0 < 0 then (pantrylaw17_StatusRounds.j0 k a1 t231 a0 true) else (if a0 > 3 then (pantrylaw17_StatusRounds.j0 k a1 t231 a0 true) else (if a1 < 0 then (pantrylaw17_StatusRounds.j0 k a1 t231 a0 true) else (pantrylaw17_StatusRounds.j0 k a1 t231 a0 (decide (a1 > 100))))))
theorem pantrylaw17_StatusRounds.mono_l : ∀ k, (∀ y0 y1 y2 y3, LeO (pantrylaw17_StatusRounds.j0 k y0 y1 y2 y3) (pantrylaw17_StatusRounds.j0 (k + 1) y0 y1 y2 y3)) ∧ (∀ y0 y1 y2 y3 y4, LeO (pantrylaw17_StatusRounds.l0 k y0 y1 y2 y3 y4) (pantrylaw17_StatusRounds.l0 (k + 1) y0 y1 y2 y3 y4)) ∧ (∀ y0 y1 y2 y3 y4 y5, LeO (pantrylaw17_StatusRounds.j2 k y0 y1 y2 y3 y4 y5) (pantrylaw17_StatusRounds.j2 (k + 1) y0 y1 y2 y3 y4 y5))
  | 0 => ⟨fun _ _ _ _ r h => by simp [pantrylaw17_StatusRounds.j0] at h, fun _ _ _ _ _ r h => by simp [pantrylaw17_StatusRounds.l0] at h, fun _ _ _ _ _ _ r h => by simp [pantrylaw17_StatusRounds.j2] at h⟩
  | k + 1 => by
    obtain ⟨ih0, ih1, ih2⟩ := pantrylaw17_StatusRounds.mono_l k
    refine ⟨?_, ?_, ?_⟩
    · intro y0 y1 y2 y3
      unfold pantrylaw17_StatusRounds.j0
      repeat' first
      | (with_reducible exact ih0 _ _ _ _)
      | (with_reducible exact ih1 _ _ _ _ _)
      | (with_reducible exact ih2 _ _ _ _ _ _)
      | (with_reducible exact pantrylaw17_small.mono _)
      | (with_reducible exact status_Finish.mono _ _ _)
      | (with_reducible exact LeO.refl _)
      | (with_reducible exact LeO.none _)
      | (with_reducible refine LeO.ite ?_ ?_)
      | (with_reducible refine LeO.bind ?_ (fun _ => ?_))
      | exact ih0 _ _ _ _
      | exact ih1 _ _ _ _ _
      | exact ih2 _ _ _ _ _ _
      | exact pantrylaw17_small.mono _
      | exact status_Finish.mono _ _ _
      | exact LeO.none _
      | refine LeO.ite ?_ ?_
      | refine LeO.bind ?_ (fun _ => ?_)
    · intro y0 y1 y2 y3 y4
      unfold pantrylaw17_StatusRounds.l0
      repeat' first
      | (with_reducible exact ih0 _ _ _ _)
      | (with_reducible exact ih1 _ _ _ _ _)
      | (with_reducible exact ih2 _ _ _ _ _ _)
      | (with_reducible exact pantrylaw17_small.mono _)
      | (with_reducible exact status_Finish.mono _ _ _)
      | (with_reducible exact LeO.refl _)
      | (with_reducible exact LeO.none _)
      | (with_reducible refine LeO.ite ?_ ?_)
      | (with_reducible refine LeO.bind ?_ (fun _ => ?_))
      | exact ih0 _ _ _ _
      | exact ih1 _ _ _ _ _
      | exact ih2 _ _ _ _ _ _
      | exact pantrylaw17_small.mono _
      | exact status_Finish.mono _ _ _
      | exact LeO.none _
      | refine LeO.ite ?_ ?_
      | refine LeO.bind ?_ (fun _ => ?_)
    · intro y0 y1 y2 y3 y4 y5
      unfold pantrylaw17_StatusRounds.j2
      repeat' first
      | (with_reducible exact ih0 _ _ _ _)
      | (with_reducible exact ih1 _ _ _ _ _)
      | (with_reducible exact ih2 _ _ _ _ _ _)
      | (with_reducible exact pantrylaw17_small.mono _)
      | (with_reducible exact status_Finish.mono _ _ _)
      | (with_reducible exact LeO.refl _)
      | (with_reducible exact LeO.none _)
      | (with_reducible refine LeO.ite ?_ ?_)
      | (with_reducible refine LeO.bind ?_ (fun _ => ?_))
      | exact ih0 _ _ _ _
      | exact ih1 _ _ _ _ _
      | exact ih2 _ _ _ _ _ _
      | exact pantrylaw17_small.mono _
      | exact status_Finish.mono _ _ _
      | exact LeO.none _
      | refine LeO.ite ?_ ?_
      | refine LeO.bind ?_ (fun _ => ?_)
theorem pantrylaw17_StatusRounds.mono : ∀ a0 a1 k, LeO (pantrylaw17_StatusRounds.f k a0 a1) (pantrylaw17_StatusRounds.f (k + 1) a0 a1) := by
  intro a0 a1 k
  obtain ⟨ih0, ih1, ih2⟩ := pantrylaw17_StatusRounds.mono_l k
  unfold pantrylaw17_StatusRounds.f
  repeat' first
      | (with_reducible exact ih0 _ _ _ _)
      | (with_reducible exact ih1 _ _ _ _ _)
      | (with_reducible exact ih2 _ _ _ _ _ _)
      | (with_reducible exact pantrylaw17_small.mono _)
      | (with_reducible exact status_Finish.mono _ _ _)
      | (with_reducible exact LeO.refl _)
      | (with_reducible exact LeO.none _)
      | (with_reducible refine LeO.ite ?_ ?_)
      | (with_reducible refine LeO.bind ?_ (fun _ => ?_))
      | exact ih0 _ _ _ _
      | exact ih1 _ _ _ _ _
      | exact ih2 _ _ _ _ _ _
      | exact pantrylaw17_small.mono _
      | exact status_Finish.mono _ _ _
      | exact LeO.none _
      | refine LeO.ite ?_ ?_
      | refine LeO.bind ?_ (fun _ => ?_)
set_option maxHeartbeats 8000000 in
set_option maxRecDepth 100000 in
theorem pantrylaw17_StatusRounds.calls (k : Nat) (a0 : Int) (a1 : Int) (r : Bool) (w : World) (h : pantrylaw17_StatusRounds.f k a0 a1 = some r) :
    Calls Try.prog 6 #[.int .i64 a0, .int .i64 a1] w fun e w' => e = .returned (.bool r) ∧ Below w.heap.size w w' := by
  have HB := Aside0.mk (Below.refl w.heap.size w)
  have H : ((pantrylaw17_small.f k).bind fun t231 => (if a0 < 0 then (pantrylaw17_StatusRounds.j0 k a1 t231 a0 true) else (if a0 > 3 then (pantrylaw17_StatusRounds.j0 k a1 t231 a0 true) else (if a1 < 0 then (pantrylaw17_StatusRounds.j0 k a1 t231 a0 true) else (pantrylaw17_StatusRounds.j0 k a1 t231 a0 (decide (a1 > 100))))))) = some r := h
  clear h
  replace H := Option.bind_eq_some_iff.mp H
  obtain ⟨t231, A30, H⟩ := H
  replace H : (if a0 < 0 then (pantrylaw17_StatusRounds.j0 k a1 t231 a0 true) else (if a0 > 3 then (pantrylaw17_StatusRounds.j0 k a1 t231 a0 true) else (if a1 < 0 then (pantrylaw17_StatusRounds.j0 k a1 t231 a0 true) else (pantrylaw17_StatusRounds.j0 k a1 t231 a0 (decide (a1 > 100)))))) = some r := H
  have A3 := Aside0.mk A30
  clear A30
  have HC4 := Aside0.mk H
  clear H
  go_enter Try.func6, Try.ntmps6
  go_upto_region 3 with (first | ((with_reducible refine gate_callee (f := 8) rfl ?_); refine goesL_ (some 12) rfl rfl Try.func8 (by kernel_rfl) rfl #[] rfl (by (try simp only [List.map_toArray, List.map_cons, List.map_nil]); first | done | rfl | (simp only [List.length_drop, List.length_take]; rfl)) ?_; (with_reducible refine (pantrylaw17_small.calls k  t231 _ A3.out).mono ?_); rintro e w5 ⟨rfl, hb⟩; refine ⟨_, rfl, ?_⟩; have n0_ := Aside0.mk (below_step (by repeat (first | (with_reducible first | exact HB.out | apply below_alloc | apply pw_below_drewN | apply below_drew1) | exact HB.out)) hb); clear HB; have HB := n0_; clear n0_; (try clear hb); (try clear hb2); (try clear hk); (try clear hi)))
  (try simp only [Act.put, List.setIfInBounds_toArray, List.set_cons_zero, List.set_cons_succ])
  go_cut [27] (fun v27 wc => ∃ (kq : Nat) (x27_3 : Bool), v27 = .bool x27_3 ∧ Aside0 (pantrylaw17_StatusRounds.j0 kq a1 t231 a0 x27_3 = some r) ∧ Aside0 (kq ≤ k) ∧ Aside0 (Below w.heap.size w wc))
  case first =>
    have H := HC4.out
    clear HC4
    by_cases c6 : a0 < 0
    · rw [if_pos c6] at H
      have c6b0 : decide (a0 < 0) = true := decide_eq_true c6
      clear c6
      (first | rw [c6b0] | (simp only [i64_w, i32_w]; rw [c6b0]) | skip)
      have H' := Aside0.mk H
      clear H
      go_wp2
      go_meet
      case rel => exact ⟨_, (true), (by first | rfl | (simp; done) | (simp [*]; done)), H', ⟨by first | omega | exact Nat.le_refl _⟩, ⟨by repeat (first | (with_reducible first | exact HB.out | apply below_alloc | apply pw_below_drewN | apply below_drew1) | exact HB.out)⟩⟩
    · rw [if_neg c6] at H
      have c6b0 : decide (a0 < 0) = false := decide_eq_false c6
      clear c6
      (first | rw [c6b0] | (simp only [i64_w, i32_w]; rw [c6b0]) | skip)
      by_cases c7 : a0 > 3
      · rw [if_pos c7] at H
        have c7b0 : decide (3 < a0) = true := decide_eq_true c7
        clear c7
        have H' := Aside0.mk H
        clear H
        go_wp2
        go_meet
        case rel => exact ⟨_, (true), (by first | rfl | (simp; done) | (simp [*]; done)), H', ⟨by first | omega | exact Nat.le_refl _⟩, ⟨by repeat (first | (with_reducible first | exact HB.out | apply below_alloc | apply pw_below_drewN | apply below_drew1) | exact HB.out)⟩⟩
      · rw [if_neg c7] at H
        have c7b0 : decide (3 < a0) = false := decide_eq_false c7
        clear c7
        by_cases c8 : a1 < 0
        · rw [if_pos c8] at H
          have c8b0 : decide (a1 < 0) = true := decide_eq_true c8
          clear c8
          have H' := Aside0.mk H
          clear H
          go_wp2
          go_meet
          case rel => exact ⟨_, (true), (by first | rfl | (simp; done) | (simp [*]; done)), H', ⟨by first | omega | exact Nat.le_refl _⟩, ⟨by repeat (first | (with_reducible first | exact HB.out | apply below_alloc | apply pw_below_drewN | apply below_drew1) | exact HB.out)⟩⟩
        · rw [if_neg c8] at H
          have c8b0 : decide (a1 < 0) = false := decide_eq_false c8
          clear c8
          have H' := Aside0.mk H
          clear H
          go_wp2
          go_meet
          case rel => exact ⟨_, (decide (a1 > 100)), (by first | rfl | (simp; done) | (simp [*]; done)), H', ⟨by first | omega | exact Nat.le_refl _⟩, ⟨by repeat (first | (with_reducible first | exact HB.out | apply below_alloc | apply pw_below_drewN | apply below_drew1) | exact HB.out)⟩⟩
  case rest =>
    clear HC4
    try clear p2
    try clear c6
    try clear c6b0
    try clear c7
    try clear c7b0
    try clear c8
    try clear c8b0
    obtain ⟨kq, x27_3, rfl, HA, HJ3, HB⟩ := hcut
    cases kq with
    | zero => exact absurd HA.out (by simp [pantrylaw17_StatusRounds.j0])
    | succ kj3 =>
      have H := HA.out
      clear HA
      simp only [pantrylaw17_StatusRounds.j0] at H
      by_cases c9 : x27_3 = true
      · subst c9
        have H1 : (some t231) = some r := by rw [if_pos rfl] at H; exact H
        clear H
        have H := H1
        clear H1
        obtain rfl := Option.some.inj H
        go_wp2
        go_ret
        exact ⟨by first | rfl | (simp [errW_none, errW_some] <;> rfl) | (simp [*, errW_none, errW_some] <;> rfl), by repeat (first | (with_reducible first | exact HB.out | apply below_alloc | apply pw_below_drewN | apply below_drew1) | exact HB.out)⟩
      · replace c9 := Bool.eq_false_iff.mpr c9
        subst c9
        have H1 : ((status_Start.f a0).bind fun t232 => (pantrylaw17_StatusRounds.l0 kj3 a1 t231 a0 t232 0)) = some r := by rw [if_neg (show ¬ (false = true) by decide)] at H; exact H
        clear H
        have H := H1
        clear H1
        replace H := Option.bind_eq_some_iff.mp H
        obtain ⟨t232, A100, H⟩ := H
        replace H : (pantrylaw17_StatusRounds.l0 kj3 a1 t231 a0 t232 0) = some r := H
        have A10 := Aside0.mk A100
        clear A100
        have H' := Aside0.mk H
        clear H
        go_wp2_with (first | ((with_reducible refine gate_callee (f := 11) rfl ?_); refine goesL_ (some 30) rfl rfl Try.func11 (by kernel_rfl) rfl #[.int .i64 a0] rfl (by (try simp only [List.map_toArray, List.map_cons, List.map_nil]); first | done | rfl | (simp only [List.length_drop, List.length_take]; rfl)) ?_; (with_reducible refine (status_Start.calls a0 t232 _ A10.out).mono ?_); rintro e w' ⟨rfl, ⟨nd, rfl⟩⟩; refine ⟨_, rfl, ?_⟩))
        go_loopg [7, 8] kj3 (fun kq v7 v8 w' => ∃ (x7_2 : Int) (x8_2 : Int), v7 = .int .i64 x7_2 ∧ v8 = .int .i64 x8_2 ∧ Aside0 (pantrylaw17_StatusRounds.l0 kq a1 t231 a0 x7_2 x8_2 = some r) ∧ Aside0 (kq ≤ kj3) ∧ Aside0 (Below w.heap.size w w'))
        case atStart => exact ⟨(t232), (0), (by first | rfl | (simp; done) | (simp [*]; done)), (by first | rfl | (simp; done) | (simp [*]; done)), H', ⟨Nat.le_refl _⟩, ⟨by repeat (first | (with_reducible first | exact HB.out | apply below_alloc | apply pw_below_drewN | apply below_drew1) | exact HB.out)⟩⟩
        case round =>
          clear H'
          try clear c1
          try clear p2
          try clear c6
          try clear c6b0
          try clear c7
          try clear c7b0
          try clear c8
          try clear c8b0
          try clear c9
          try clear p2
          obtain ⟨x7_2, x8_2, rfl, rfl, HA, HK2, HB⟩ := hrel
          cases gk with
          | zero => exact absurd HA.out (by simp [pantrylaw17_StatusRounds.l0])
          | succ k2 =>
            have H := HA.out
            clear HA
            simp only [pantrylaw17_StatusRounds.l0] at H
            by_cases c11 : x8_2 < a1
            · rw [if_pos c11] at H
              have c11b0 : decide (x8_2 < a1) = true := decide_eq_true c11
              clear c11
              replace H := Option.bind_eq_some_iff.mp H
              obtain ⟨t233, A120, H⟩ := H
              replace H : (pantrylaw17_StatusRounds.l0 k2 a1 t231 a0 t233 (wrap64 (x8_2 + 1))) = some r := H
              have A12 := Aside0.mk A120
              clear A120
              have H' := Aside0.mk H
              clear H
              go_wp2_with (first | ((with_reducible refine gate_callee (f := 9) rfl ?_); refine goesL_ (some 37) rfl rfl Try.func9 (by kernel_rfl) rfl #[.int .i64 x7_2] rfl (by (try simp only [List.map_toArray, List.map_cons, List.map_nil]); first | done | rfl | (simp only [List.length_drop, List.length_take]; rfl)) ?_; (with_reducible refine (status_Wrote.calls x7_2 t233 _ A12.out).mono ?_); rintro e w' ⟨rfl, ⟨nd, rfl⟩⟩; refine ⟨_, rfl, ?_⟩))
              go_roundg k2
              case measure => have := HJ3.out; have := HK2.out; omega
              case rel => exact ⟨(t233), (wrap64 (x8_2 + 1)), (by first | rfl | (simp; done) | (simp [*]; done)), (by first | rfl | (simp; done) | (simp [*]; done)), H', ⟨by have := HJ3.out; have := HK2.out; omega⟩, ⟨by repeat (first | (with_reducible first | exact HB.out | apply below_alloc | apply pw_below_drewN | apply below_drew1) | exact HB.out)⟩⟩
            · rw [if_neg c11] at H
              have c11b0 : decide (x8_2 < a1) = false := decide_eq_false c11
              clear c11
              replace H := Option.bind_eq_some_iff.mp H
              obtain ⟨t234, A130, H⟩ := H
              replace H : (if a1 > 0 then (pantrylaw17_StatusRounds.j2 k2 a1 t231 a0 x7_2 t234 1) else (pantrylaw17_StatusRounds.j2 k2 a1 t231 a0 x7_2 t234 0)) = some r := H
              have A13 := Aside0.mk A130
              clear A130
              have HC14 := Aside0.mk H
              clear H
              go_upto_if 41 with (first | ((with_reducible refine gate_callee (f := 13) rfl ?_); refine goesL_ (some 39) rfl rfl Try.func13 (by kernel_rfl) rfl #[.int .i64 x7_2, .bool false] rfl (by (try simp only [List.map_toArray, List.map_cons, List.map_nil]); first | done | rfl | (simp only [List.length_drop, List.length_take]; rfl)) ?_; (with_reducible refine (status_Finish.calls k2 x7_2 false t234 _ A13.out).mono ?_); rintro e w' ⟨rfl, ⟨nd, rfl⟩⟩; refine ⟨_, rfl, ?_⟩))
              (try simp only [Act.put, List.setIfInBounds_toArray, List.set_cons_zero, List.set_cons_succ])
              go_cut [10] (fun v10 wc => ∃ (kq : Nat) (x10_13 : Int), v10 = .int .i64 x10_13 ∧ Aside0 (pantrylaw17_StatusRounds.j2 kq a1 t231 a0 x7_2 t234 x10_13 = some r) ∧ Aside0 (kq ≤ k2) ∧ Aside0 (Below w.heap.size w wc))
              case first =>
                have H := HC14.out
                clear HC14
                by_cases c15 : a1 > 0
                · rw [if_pos c15] at H
                  have c15b0 : decide (0 < a1) = true := decide_eq_true c15
                  clear c15
                  (first | rw [c15b0] | (simp only [i64_w, i32_w]; rw [c15b0]) | skip)
                  have H' := Aside0.mk H
                  clear H
                  go_wp2
                  go_meet
                  case rel => exact ⟨_, (1), (by first | rfl | (simp; done) | (simp [*]; done)), H', ⟨by have := HJ3.out; have := HK2.out; first | omega | exact Nat.le_refl _⟩, ⟨by repeat (first | (with_reducible first | exact HB.out | apply below_alloc | apply pw_below_drewN | apply below_drew1) | exact HB.out)⟩⟩
                · rw [if_neg c15] at H
                  have c15b0 : decide (0 < a1) = false := decide_eq_false c15
                  clear c15
                  (first | rw [c15b0] | (simp only [i64_w, i32_w]; rw [c15b0]) | skip)
                  have H' := Aside0.mk H
                  clear H
                  go_wp2
                  go_meet
                  case rel => exact ⟨_, (0), (by first | rfl | (simp; done) | (simp [*]; done)), H', ⟨by have := HJ3.out; have := HK2.out; first | omega | exact Nat.le_refl _⟩, ⟨by repeat (first | (with_reducible first | exact HB.out | apply below_alloc | apply pw_below_drewN | apply below_drew1) | exact HB.out)⟩⟩
              case rest =>
                clear HC14
                try clear c1
                try clear p2
                try clear c6
                try clear c6b0
                try clear p6
                try clear c7
                try clear c7b0
                try clear c8
                try clear c8b0
                try clear c9
                try clear c11
                try clear c11b0
                try clear c13
                try clear c15
                try clear c15b0
                try clear p2
                obtain ⟨kq, x10_13, rfl, HA, HJ13, HB⟩ := hcut
                cases kq with
                | zero => exact absurd HA.out (by simp [pantrylaw17_StatusRounds.j2])
                | succ kj13 =>
                  have H := HA.out
                  clear HA
                  simp only [pantrylaw17_StatusRounds.j2] at H
                  replace H := Option.bind_eq_some_iff.mp H
                  obtain ⟨t235, A160, H⟩ := H
                  replace H : (if t231 = true then (if t234 = x10_13 then ((status_Busy.f x7_2).bind fun t236 => (if t236 = true then ((status_Busy.f t234).bind fun t237 => (if t237 = true then (some false) else ((status_Wrote.f t235).bind fun t238 => (if t238 = t235 then ((status_Should.f t235 false).bind fun t239 => ((status_Busy.f a0).bind fun t240 => (if (t239 == (!t240)) = true then ((status_Should.f t234 false).bind fun t241 => (some (t241 == (decide (a1 > 0))))) else (some false)))) else (some false))))) else (some false))) else (some false)) else (some false)) = some r := H
                  have A16 := Aside0.mk A160
                  clear A160
                  by_cases c17 : t231 = true
                  · subst c17
                    have H1 : (if t234 = x10_13 then ((status_Busy.f x7_2).bind fun t236 => (if t236 = true then ((status_Busy.f t234).bind fun t237 => (if t237 = true then (some false) else ((status_Wrote.f t235).bind fun t238 => (if t238 = t235 then ((status_Should.f t235 false).bind fun t239 => ((status_Busy.f a0).bind fun t240 => (if (t239 == (!t240)) = true then ((status_Should.f t234 false).bind fun t241 => (some (t241 == (decide (a1 > 0))))) else (some false)))) else (some false))))) else (some false))) else (some false)) = some r := by rw [if_pos rfl] at H; exact H
                    clear H
                    have H := H1
                    clear H1
                    by_cases c18 : t234 = x10_13
                    · rw [if_pos c18] at H
                      have c18b0 : (t234 == x10_13) = true := beq_iff_eq.mpr c18
                      have c18b1 : (t234 != x10_13) = false := bne_eq_false_iff_eq.mpr c18
                      clear c18
                      replace H := Option.bind_eq_some_iff.mp H
                      obtain ⟨t236, A190, H⟩ := H
                      replace H : (if t236 = true then ((status_Busy.f t234).bind fun t237 => (if t237 = true then (some false) else ((status_Wrote.f t235).bind fun t238 => (if t238 = t235 then ((status_Should.f t235 false).bind fun t239 => ((status_Busy.f a0).bind fun t240 => (if (t239 == (!t240)) = true then ((status_Should.f t234 false).bind fun t241 => (some (t241 == (decide (a1 > 0))))) else (some false)))) else (some false))))) else (some false)) = some r := H
                      have A19 := Aside0.mk A190
                      clear A190
                      by_cases c20 : t236 = true
                      · subst c20
                        have H1 : ((status_Busy.f t234).bind fun t237 => (if t237 = true then (some false) else ((status_Wrote.f t235).bind fun t238 => (if t238 = t235 then ((status_Should.f t235 false).bind fun t239 => ((status_Busy.f a0).bind fun t240 => (if (t239 == (!t240)) = true then ((status_Should.f t234 false).bind fun t241 => (some (t241 == (decide (a1 > 0))))) else (some false)))) else (some false))))) = some r := by rw [if_pos rfl] at H; exact H
                        clear H
                        have H := H1
                        clear H1
                        replace H := Option.bind_eq_some_iff.mp H
                        obtain ⟨t237, A210, H⟩ := H
                        replace H : (if t237 = true then (some false) else ((status_Wrote.f t235).bind fun t238 => (if t238 = t235 then ((status_Should.f t235 false).bind fun t239 => ((status_Busy.f a0).bind fun t240 => (if (t239 == (!t240)) = true then ((status_Should.f t234 false).bind fun t241 => (some (t241 == (decide (a1 > 0))))) else (some false)))) else (some false)))) = some r := H
                        have A21 := Aside0.mk A210
                        clear A210
                        by_cases c22 : t237 = true
                        · subst c22
                          have H1 : (some false) = some r := by rw [if_pos rfl] at H; exact H
                          clear H
                          have H := H1
                          clear H1
                          obtain rfl := Option.some.inj H
                          go_wp2_with (first | ((with_reducible refine gate_callee (f := 9) rfl ?_); refine goesL_ (some 43) rfl rfl Try.func9 (by kernel_rfl) rfl #[.int .i64 a0] rfl (by (try simp only [List.map_toArray, List.map_cons, List.map_nil]); first | done | rfl | (simp only [List.length_drop, List.length_take]; rfl)) ?_; (with_reducible refine (status_Wrote.calls a0 t235 _ A16.out).mono ?_); rintro e w' ⟨rfl, ⟨nd, rfl⟩⟩; refine ⟨_, rfl, ?_⟩) | (go_at_call 17; (with_reducible refine (status_Busy.calls x7_2 true _ A19.out).mono ?_); rintro e w' ⟨rfl, ⟨nd, rfl⟩⟩) | (go_at_call 17; (with_reducible refine (status_Busy.calls t234 true _ A21.out).mono ?_); rintro e w' ⟨rfl, ⟨nd, rfl⟩⟩))
                          go_ret
                          exact ⟨by first | rfl | (simp [errW_none, errW_some] <;> rfl) | (simp [*, errW_none, errW_some] <;> rfl), by repeat (first | (with_reducible first | exact HB.out | apply below_alloc | apply pw_below_drewN | apply below_drew1) | exact HB.out)⟩
                        · replace c22 := Bool.eq_false_iff.mpr c22
                          subst c22
                          have H1 : ((status_Wrote.f t235).bind fun t238 => (if t238 = t235 then ((status_Should.f t235 false).bind fun t239 => ((status_Busy.f a0).bind fun t240 => (if (t239 == (!t240)) = true then ((status_Should.f t234 false).bind fun t241 => (some (t241 == (decide (a1 > 0))))) else (some false)))) else (some false))) = some r := by rw [if_neg (show ¬ (false = true) by decide)] at H; exact H
                          clear H
                          have H := H1
                          clear H1
                          replace H := Option.bind_eq_some_iff.mp H
                          obtain ⟨t238, A230, H⟩ := H
                          replace H : (if t238 = t235 then ((status_Should.f t235 false).bind fun t239 => ((status_Busy.f a0).bind fun t240 => (if (t239 == (!t240)) = true then ((status_Should.f t234 false).bind fun t241 => (some (t241 == (decide (a1 > 0))))) else (some false)))) else (some false)) = some r := H
                          have A23 := Aside0.mk A230
                          clear A230
                          by_cases c24 : t238 = t235
                          · rw [if_pos c24] at H
                            have c24b0 : (t238 == t235) = true := beq_iff_eq.mpr c24
                            have c24b1 : (t238 != t235) = false := bne_eq_false_iff_eq.mpr c24
                            clear c24
                            replace H := Option.bind_eq_some_iff.mp H
                            obtain ⟨t239, A250, H⟩ := H
                            replace H : ((status_Busy.f a0).bind fun t240 => (if (t239 == (!t240)) = true then ((status_Should.f t234 false).bind fun t241 => (some (t241 == (decide (a1 > 0))))) else (some false))) = some r := H
                            have A25 := Aside0.mk A250
                            clear A250
                            replace H := Option.bind_eq_some_iff.mp H
                            obtain ⟨t240, A260, H⟩ := H
                            replace H : (if (t239 == (!t240)) = true then ((status_Should.f t234 false).bind fun t241 => (some (t241 == (decide (a1 > 0))))) else (some false)) = some r := H
                            have A26 := Aside0.mk A260
                            clear A260
                            by_cases c27 : (t239 == (!t240)) = true
                            · rw [if_pos c27] at H
                              have c27b0 : (t239 == (!t240)) = true := c27
                              (try (have c27b1 : decide (t239 = (!t240)) = true := by simpa using c27))
                              (try (have c27b2 : (t239 == (!t240)) = true := by simpa using c27))
                              clear c27
                              replace H := Option.bind_eq_some_iff.mp H
                              obtain ⟨t241, A280, H⟩ := H
                              replace H : (some (t241 == (decide (a1 > 0)))) = some r := H
                              have A28 := Aside0.mk A280
                              clear A280
                              obtain rfl := Option.some.inj H
                              go_wp2_with (first | ((with_reducible refine gate_callee (f := 9) rfl ?_); refine goesL_ (some 43) rfl rfl Try.func9 (by kernel_rfl) rfl #[.int .i64 a0] rfl (by (try simp only [List.map_toArray, List.map_cons, List.map_nil]); first | done | rfl | (simp only [List.length_drop, List.length_take]; rfl)) ?_; (with_reducible refine (status_Wrote.calls a0 t235 _ A16.out).mono ?_); rintro e w' ⟨rfl, ⟨nd, rfl⟩⟩; refine ⟨_, rfl, ?_⟩) | (go_at_call 17; (with_reducible refine (status_Busy.calls x7_2 true _ A19.out).mono ?_); rintro e w' ⟨rfl, ⟨nd, rfl⟩⟩) | (go_at_call 17; (with_reducible refine (status_Busy.calls t234 false _ A21.out).mono ?_); rintro e w' ⟨rfl, ⟨nd, rfl⟩⟩) | (go_at_call 9; (with_reducible refine (status_Wrote.calls t235 t238 _ A23.out).mono ?_); rintro e w' ⟨rfl, ⟨nd, rfl⟩⟩) | (go_at_call 15; (with_reducible refine (status_Should.calls t235 false t239 _ A25.out).mono ?_); rintro e w' ⟨rfl, ⟨nd, rfl⟩⟩) | (go_at_call 17; (with_reducible refine (status_Busy.calls a0 t240 _ A26.out).mono ?_); rintro e w' ⟨rfl, ⟨nd, rfl⟩⟩) | (go_at_call 15; (with_reducible refine (status_Should.calls t234 false t241 _ A28.out).mono ?_); rintro e w' ⟨rfl, ⟨nd, rfl⟩⟩))
                              go_ret
                              exact ⟨by first | rfl | (simp [errW_none, errW_some] <;> rfl) | (simp [*, errW_none, errW_some] <;> rfl), by repeat (first | (with_reducible first | exact HB.out | apply below_alloc | apply pw_below_drewN | apply below_drew1) | exact HB.out)⟩
                            · rw [if_neg c27] at H
                              have c27b0 : (t239 == (!t240)) = false := by simpa using c27
                              (try (have c27b1 : decide (t239 = (!t240)) = false := by simpa using c27))
                              (try (have c27b2 : (t239 == (!t240)) = false := by simpa using c27))
                              (try (have c27b3 : ¬ (t239 = (!t240)) := by simpa using c27))
                              clear c27
                              obtain rfl := Option.some.inj H
                              go_wp2_with (first | ((with_reducible refine gate_callee (f := 9) rfl ?_); refine goesL_ (some 43) rfl rfl Try.func9 (by kernel_rfl) rfl #[.int .i64 a0] rfl (by (try simp only [List.map_toArray, List.map_cons, List.map_nil]); first | done | rfl | (simp only [List.length_drop, List.length_take]; rfl)) ?_; (with_reducible refine (status_Wrote.calls a0 t235 _ A16.out).mono ?_); rintro e w' ⟨rfl, ⟨nd, rfl⟩⟩; refine ⟨_, rfl, ?_⟩) | (go_at_call 17; (with_reducible refine (status_Busy.calls x7_2 true _ A19.out).mono ?_); rintro e w' ⟨rfl, ⟨nd, rfl⟩⟩) | (go_at_call 17; (with_reducible refine (status_Busy.calls t234 false _ A21.out).mono ?_); rintro e w' ⟨rfl, ⟨nd, rfl⟩⟩) | (go_at_call 9; (with_reducible refine (status_Wrote.calls t235 t238 _ A23.out).mono ?_); rintro e w' ⟨rfl, ⟨nd, rfl⟩⟩) | (go_at_call 15; (with_reducible refine (status_Should.calls t235 false t239 _ A25.out).mono ?_); rintro e w' ⟨rfl, ⟨nd, rfl⟩⟩) | (go_at_call 17; (with_reducible refine (status_Busy.calls a0 t240 _ A26.out).mono ?_); rintro e w' ⟨rfl, ⟨nd, rfl⟩⟩))
                              go_ret
                              exact ⟨by first | rfl | (simp [errW_none, errW_some] <;> rfl) | (simp [*, errW_none, errW_some] <;> rfl), by repeat (first | (with_reducible first | exact HB.out | apply below_alloc | apply pw_below_drewN | apply below_drew1) | exact HB.out)⟩
                          · rw [if_neg c24] at H
                            have c24b0 : (t238 == t235) = false := beq_eq_false_iff_ne.mpr c24
                            have c24b1 : (t238 != t235) = true := bne_iff_ne.mpr c24
                            obtain rfl := Option.some.inj H
                            go_wp2_with (first | ((with_reducible refine gate_callee (f := 9) rfl ?_); refine goesL_ (some 43) rfl rfl Try.func9 (by kernel_rfl) rfl #[.int .i64 a0] rfl (by (try simp only [List.map_toArray, List.map_cons, List.map_nil]); first | done | rfl | (simp only [List.length_drop, List.length_take]; rfl)) ?_; (with_reducible refine (status_Wrote.calls a0 t235 _ A16.out).mono ?_); rintro e w' ⟨rfl, ⟨nd, rfl⟩⟩; refine ⟨_, rfl, ?_⟩) | (go_at_call 17; (with_reducible refine (status_Busy.calls x7_2 true _ A19.out).mono ?_); rintro e w' ⟨rfl, ⟨nd, rfl⟩⟩) | (go_at_call 17; (with_reducible refine (status_Busy.calls t234 false _ A21.out).mono ?_); rintro e w' ⟨rfl, ⟨nd, rfl⟩⟩) | (go_at_call 9; (with_reducible refine (status_Wrote.calls t235 t238 _ A23.out).mono ?_); rintro e w' ⟨rfl, ⟨nd, rfl⟩⟩))
                            go_ret
                            exact ⟨by first | rfl | (simp [errW_none, errW_some] <;> rfl) | (simp [*, errW_none, errW_some] <;> rfl), by repeat (first | (with_reducible first | exact HB.out | apply below_alloc | apply pw_below_drewN | apply below_drew1) | exact HB.out)⟩
                      · replace c20 := Bool.eq_false_iff.mpr c20
                        subst c20
                        have H1 : (some false) = some r := by rw [if_neg (show ¬ (false = true) by decide)] at H; exact H
                        clear H
                        have H := H1
                        clear H1
                        obtain rfl := Option.some.inj H
                        go_wp2_with (first | ((with_reducible refine gate_callee (f := 9) rfl ?_); refine goesL_ (some 43) rfl rfl Try.func9 (by kernel_rfl) rfl #[.int .i64 a0] rfl (by (try simp only [List.map_toArray, List.map_cons, List.map_nil]); first | done | rfl | (simp only [List.length_drop, List.length_take]; rfl)) ?_; (with_reducible refine (status_Wrote.calls a0 t235 _ A16.out).mono ?_); rintro e w' ⟨rfl, ⟨nd, rfl⟩⟩; refine ⟨_, rfl, ?_⟩) | (go_at_call 17; (with_reducible refine (status_Busy.calls x7_2 false _ A19.out).mono ?_); rintro e w' ⟨rfl, ⟨nd, rfl⟩⟩))
                        go_ret
                        exact ⟨by first | rfl | (simp [errW_none, errW_some] <;> rfl) | (simp [*, errW_none, errW_some] <;> rfl), by repeat (first | (with_reducible first | exact HB.out | apply below_alloc | apply pw_below_drewN | apply below_drew1) | exact HB.out)⟩
                    · rw [if_neg c18] at H
                      have c18b0 : (t234 == x10_13) = false := beq_eq_false_iff_ne.mpr c18
                      have c18b1 : (t234 != x10_13) = true := bne_iff_ne.mpr c18
                      obtain rfl := Option.some.inj H
                      go_wp2_with (first | ((with_reducible refine gate_callee (f := 9) rfl ?_); refine goesL_ (some 43) rfl rfl Try.func9 (by kernel_rfl) rfl #[.int .i64 a0] rfl (by (try simp only [List.map_toArray, List.map_cons, List.map_nil]); first | done | rfl | (simp only [List.length_drop, List.length_take]; rfl)) ?_; (with_reducible refine (status_Wrote.calls a0 t235 _ A16.out).mono ?_); rintro e w' ⟨rfl, ⟨nd, rfl⟩⟩; refine ⟨_, rfl, ?_⟩))
                      go_ret
                      exact ⟨by first | rfl | (simp [errW_none, errW_some] <;> rfl) | (simp [*, errW_none, errW_some] <;> rfl), by repeat (first | (with_reducible first | exact HB.out | apply below_alloc | apply pw_below_drewN | apply below_drew1) | exact HB.out)⟩
                  · replace c17 := Bool.eq_false_iff.mpr c17
                    subst c17
                    have H1 : (some false) = some r := by rw [if_neg (show ¬ (false = true) by decide)] at H; exact H
                    clear H
                    have H := H1
                    clear H1
                    obtain rfl := Option.some.inj H
                    go_wp2_with (first | ((with_reducible refine gate_callee (f := 9) rfl ?_); refine goesL_ (some 43) rfl rfl Try.func9 (by kernel_rfl) rfl #[.int .i64 a0] rfl (by (try simp only [List.map_toArray, List.map_cons, List.map_nil]); first | done | rfl | (simp only [List.length_drop, List.length_take]; rfl)) ?_; (with_reducible refine (status_Wrote.calls a0 t235 _ A16.out).mono ?_); rintro e w' ⟨rfl, ⟨nd, rfl⟩⟩; refine ⟨_, rfl, ?_⟩))
                    go_ret
                    exact ⟨by first | rfl | (simp [errW_none, errW_some] <;> rfl) | (simp [*, errW_none, errW_some] <;> rfl), by repeat (first | (with_reducible first | exact HB.out | apply below_alloc | apply pw_below_drewN | apply below_drew1) | exact HB.out)⟩

/-- THE ONE PURE STATEMENT of pantrylaw17_StatusRounds: yours. -/
def pantrylaw17_StatusRounds.Pure : Prop := ∀ (a0 : Int) (a1 : Int), (Lit.int .i64 a0).wf = true → (Lit.int .i64 a1).wf = true → ∃ k, pantrylaw17_StatusRounds.f k a0 a1 = some true
theorem pantrylaw17_StatusRounds.walk (P : pantrylaw17_StatusRounds.Pure) (a0 : Int) (a1 : Int) (w : World) (w0 : (Lit.int .i64 a0).wf = true) (w1 : (Lit.int .i64 a1).wf = true) :
    Calls Try.prog 6 #[.int .i64 a0, .int .i64 a1] w fun e w' => e = .returned (.bool true) ∧ Below w.heap.size w w' := by
  obtain ⟨k, h⟩ := P a0 a1 w0 w1
  refine (pantrylaw17_StatusRounds.calls k a0 a1 true w h).mono ?_
  rintro e w' ⟨rfl, hd⟩
  exact ⟨rfl, hd⟩

end Go.Proofs.Ythnkpglljmglaaa.OS

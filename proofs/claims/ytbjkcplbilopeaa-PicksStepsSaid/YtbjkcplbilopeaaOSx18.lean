/- Walks of the Go functions that the statement reaches: each call answers what the plain Lean function beside it says (a step on the way to the statement). Written by a program of the session's own; not a printed file. No conditions. -/
import Derived.Test.YtbjkcplbilopeaaOSx0
import Derived.Test.YtbjkcplbilopeaaOSx1
import Derived.Test.YtbjkcplbilopeaaOSx3
import Derived.Test.YtbjkcplbilopeaaOSx8
namespace Go.Proofs.Ytbjkcplbilopeaa.OS
open Go.RowKit Go.Proofs.YtbjkcplbilopeaaW.PrintWords Go.Proofs.YtbjkcplbilopeaaW.PrintLast Go.Proofs.YtbjkcplbilopeaaW.PrintMore
attribute [local go_sem] max2_int min2_int max_two min_two max_three min_three max_four min_four   -- for this text's walks alone
set_option linter.unusedVariables false
set_option linter.unusedSimpArgs false

/-! ### pantrylaw20_PicksSteps: function 7 -/
mutual
def pantrylaw20_PicksSteps.j0 : Nat → List Int → List Int → Int → List Bool → Bool → Bool → Option (Bool)
  | 0, _, _, _, _, _, _ => none
  | k + 1, x0, x1, x2, x3, x9, x39 => if x39 = true then (some x9) else ((picks_Steps.f k x0 x2).bind fun t217 => ((picks_Steps.f k x1 x2).bind fun t220 => ((some (([] : List Int) : List Int)).bind fun y223 => (if y223.length + x0.length < 17592186044416 then ((some (y223 ++ x0 : List Int)).bind fun y226 => (if y226.length + x1.length < 17592186044416 then ((picks_Steps.f k (y226 ++ x1) x2).bind fun t232 => (if (t217.length : Int) = x2 then (if (t220.length : Int) = x2 then (pantrylaw20_PicksSteps.j1 k x0 x2 x3 x9 t217 t220 t232 ((t232.length : Int) != x2)) else (pantrylaw20_PicksSteps.j1 k x0 x2 x3 x9 t217 t220 t232 true)) else (pantrylaw20_PicksSteps.j1 k x0 x2 x3 x9 t217 t220 t232 true))) else (none))) else (none)))))
def pantrylaw20_PicksSteps.j1 : Nat → List Int → Int → List Bool → Bool → List Int → List Int → List Int → Bool → Option (Bool)
  | 0, _, _, _, _, _, _, _, _ => none
  | k + 1, x0, x2, x3, x9, x10, x11, x12, x69 => if x69 = true then (some false) else (pantrylaw20_PicksSteps.l0 k x0 x2 x3 x9 x10 x11 x12 0)
def pantrylaw20_PicksSteps.l0 : Nat → List Int → Int → List Bool → Bool → List Int → List Int → List Int → Int → Option (Bool)
  | 0, _, _, _, _, _, _, _, _ => none
  | k + 1, x0, x2, x3, x9, x10, x11, x12, x13 => if x13 < x2 then (if 0 ≤ x13 then (if x13 < (x12.length : Int) then (if x13 < (x10.length : Int) then (if x13 < (x11.length : Int) then (if (rd x12 x13) = (wrap64 ((rd x10 x13) + (rd x11 x13))) then (pantrylaw20_PicksSteps.l0 k x0 x2 x3 x9 x10 x11 x12 (wrap64 (x13 + 1))) else (some false)) else (none)) else (none)) else (none)) else (none)) else (pantrylaw20_PicksSteps.l1 k x0 x3 x9 false 0)
def pantrylaw20_PicksSteps.l1 : Nat → List Int → List Bool → Bool → Bool → Int → Option (Bool)
  | 0, _, _, _, _, _ => none
  | k + 1, x0, x3, x9, x14, x15 => if x15 < (x3.length : Int) then (if x14 = true then (if 0 ≤ x15 then (if rdOf false x3 x15 = true then ((picks_Next.f k x15 x3).bind fun t239 => (if t239 = x15 then (pantrylaw20_PicksSteps.l1 k x0 x3 x9 true (wrap64 (x15 + 1))) else (some false))) else (pantrylaw20_PicksSteps.l1 k x0 x3 x9 true (wrap64 (x15 + 1)))) else (none)) else (if 0 ≤ x15 then (if rdOf false x3 x15 = true then ((picks_Next.f k x15 x3).bind fun t242 => (if t242 = x15 then (pantrylaw20_PicksSteps.l1 k x0 x3 x9 (rdOf false x3 x15) (wrap64 (x15 + 1))) else (some false))) else (pantrylaw20_PicksSteps.l1 k x0 x3 x9 (rdOf false x3 x15) (wrap64 (x15 + 1)))) else (none))) else (pantrylaw20_PicksSteps.l2 k x0 x3 x9 x14 0)
def pantrylaw20_PicksSteps.l2 : Nat → List Int → List Bool → Bool → Bool → Int → Option (Bool)
  | 0, _, _, _, _, _ => none
  | k + 1, x0, x3, x9, x14, x16 => if x16 < (x0.length : Int) then (if 0 ≤ x16 then ((picks_Next.f k (rd x0 x16) x3).bind fun t244 => (if ((decide (t244 ≥ 0)) != x14) = true then (some false) else (if t244 ≥ (x3.length : Int) then (some false) else (if t244 ≥ 0 then (if 0 ≤ t244 then (if t244 < (x3.length : Int) then (if rdOf false x3 t244 = true then (pantrylaw20_PicksSteps.l2 k x0 x3 x9 x14 (wrap64 (x16 + 1))) else (some false)) else (none)) else (none)) else (pantrylaw20_PicksSteps.l2 k x0 x3 x9 x14 (wrap64 (x16 + 1))))))) else (none)) else (some x9)
end
def pantrylaw20_PicksSteps.f (k : Nat) (l0 : List Int) (l1 : List Int) (a2 : Int) (l3 : List Bool) : Option (Bool) := (pantrylaw20_small.f k).bind fun t216 => (if (l0.length : Int) > 100 then (pantrylaw20_PicksSteps.j0 k l0 l1 a2 l3 t216 true) else (if (l1.length : Int) > 100 then (pantrylaw20_PicksSteps.j0 k l0 l1 a2 l3 t216 true) else (if a2 < 1 then (pantrylaw20_PicksSteps.j0 k l0 l1 a2 l3 t216 true) else (if a2 > 100 then (pantrylaw20_PicksSteps.j0 k l0 l1 a2 l3 t216 true) else (pantrylaw20_PicksSteps.j0 k l0 l1 a2 l3 t216 (decide ((l3.length : Int) > 100)))))))
theorem pantrylaw20_PicksSteps.mono_l : ∀ k, (∀ y0 y1 y2 y3 y4 y5, LeO (pantrylaw20_PicksSteps.j0 k y0 y1 y2 y3 y4 y5) (pantrylaw20_PicksSteps.j0 (k + 1) y0 y1 y2 y3 y4 y5)) ∧ (∀ y0 y1 y2 y3 y4 y5 y6 y7, LeO (pantrylaw20_PicksSteps.j1 k y0 y1 y2 y3 y4 y5 y6 y7) (pantrylaw20_PicksSteps.j1 (k + 1) y0 y1 y2 y3 y4 y5 y6 y7)) ∧ (∀ y0 y1 y2 y3 y4 y5 y6 y7, LeO (pantrylaw20_PicksSteps.l0 k y0 y1 y2 y3 y4 y5 y6 y7) (pantrylaw20_PicksSteps.l0 (k + 1) y0 y1 y2 y3 y4 y5 y6 y7)) ∧ (∀ y0 y1 y2 y3 y4, LeO (pantrylaw20_PicksSteps.l1 k y0 y1 y2 y3 y4) (pantrylaw20_PicksSteps.l1 (k + 1) y0 y1 y2 y3 y4)) ∧ (∀ y0 y1 y2 y3 y4, LeO (pantrylaw20_PicksSteps.l2 k y0 y1 y2 y3 y4) (pantrylaw20_PicksSteps.l2 (k + 1) y0 y1 y2 y3 y4))
  | 0 => ⟨fun _ _ _ _ _ _ r h => by simp [pantrylaw20_PicksSteps.j0] at h, fun _ _ _ _ _ _ _ _ r h => by simp [pantrylaw20_PicksSteps.j1] at h, fun _ _ _ _ _ _ _ _ r h => by simp [pantrylaw20_PicksSteps.l0] at h, fun _ _ _ _ _ r h => by simp [pantrylaw20_PicksSteps.l1] at h, fun _ _ _ _ _ r h => by simp [pantrylaw20_PicksSteps.l2] at h⟩
  | k + 1 => by
    obtain ⟨ih0, ih1, ih2, ih3, ih4⟩ := pantrylaw20_PicksSteps.mono_l k
    refine ⟨?_, ?_, ?_, ?_, ?_⟩
    · intro y0 y1 y2 y3 y4 y5
      unfold pantrylaw20_PicksSteps.j0
      repeat' first
      | (with_reducible exact ih0 _ _ _ _ _ _)
      | (with_reducible exact ih1 _ _ _ _ _ _ _ _)
      | (with_reducible exact ih2 _ _ _ _ _ _ _ _)
      | (with_reducible exact ih3 _ _ _ _ _)
      | (with_reducible exact ih4 _ _ _ _ _)
      | (with_reducible exact pantrylaw20_small.mono _)
      | (with_reducible exact picks_Next.mono _ _ _)
      | (with_reducible exact picks_Steps.mono _ _ _)
      | (with_reducible exact LeO.refl _)
      | (with_reducible exact LeO.none _)
      | (with_reducible refine LeO.ite ?_ ?_)
      | (with_reducible refine LeO.bind ?_ (fun _ => ?_))
      | exact ih0 _ _ _ _ _ _
      | exact ih1 _ _ _ _ _ _ _ _
      | exact ih2 _ _ _ _ _ _ _ _
      | exact ih3 _ _ _ _ _
      | exact ih4 _ _ _ _ _
      | exact pantrylaw20_small.mono _
      | exact picks_Next.mono _ _ _
      | exact picks_Steps.mono _ _ _
      | exact LeO.none _
      | refine LeO.ite ?_ ?_
      | refine LeO.bind ?_ (fun _ => ?_)
    · intro y0 y1 y2 y3 y4 y5 y6 y7
      unfold pantrylaw20_PicksSteps.j1
      repeat' first
      | (with_reducible exact ih0 _ _ _ _ _ _)
      | (with_reducible exact ih1 _ _ _ _ _ _ _ _)
      | (with_reducible exact ih2 _ _ _ _ _ _ _ _)
      | (with_reducible exact ih3 _ _ _ _ _)
      | (with_reducible exact ih4 _ _ _ _ _)
      | (with_reducible exact pantrylaw20_small.mono _)
      | (with_reducible exact picks_Next.mono _ _ _)
      | (with_reducible exact picks_Steps.mono _ _ _)
      | (with_reducible exact LeO.refl _)
      | (with_reducible exact LeO.none _)
      | (with_reducible refine LeO.ite ?_ ?_)
      | (with_reducible refine LeO.bind ?_ (fun _ => ?_))
      | exact ih0 _ _ _ _ _ _
      | exact ih1 _ _ _ _ _ _ _ _
      | exact ih2 _ _ _ _ _ _ _ _
      | exact ih3 _ _ _ _ _
      | exact ih4 _ _ _ _ _
      | exact pantrylaw20_small.mono _
      | exact picks_Next.mono _ _ _
      | exact picks_Steps.mono _ _ _
      | exact LeO.none _
      | refine LeO.ite ?_ ?_
      | refine LeO.bind ?_ (fun _ => ?_)
    · intro y0 y1 y2 y3 y4 y5 y6 y7
      unfold pantrylaw20_PicksSteps.l0
      repeat' first
      | (with_reducible exact ih0 _ _ _ _ _ _)
      | (with_reducible exact ih1 _ _ _ _ _ _ _ _)
      | (with_reducible exact ih2 _ _ _ _ _ _ _ _)
      | (with_reducible exact ih3 _ _ _ _ _)
      | (with_reducible exact ih4 _ _ _ _ _)
      | (with_reducible exact pantrylaw20_small.mono _)
      | (with_reducible exact picks_Next.mono _ _ _)
      | (with_reducible exact picks_Steps.mono _ _ _)
      | (with_reducible exact LeO.refl _)
      | (with_reducible exact LeO.none _)
      | (with_reducible refine LeO.ite ?_ ?_)
      | (with_reducible refine LeO.bind ?_ (fun _ => ?_))
      | exact ih0 _ _ _ _ _ _
      | exact ih1 _ _ _ _ _ _ _ _
      | exact ih2 _ _ _ _ _ _ _ _
      | exact ih3 _ _ _ _ _
      | exact ih4 _ _ _ _ _
      | exact pantrylaw20_small.mono _
      | exact picks_Next.mono _ _ _
      | exact picks_Steps.mono _ _ _
      | exact LeO.none _
      | refine LeO.ite ?_ ?_
      | refine LeO.bind ?_ (fun _ => ?_)
    · intro y0 y1 y2 y3 y4
      unfold pantrylaw20_PicksSteps.l1
      repeat' first
      | (with_reducible exact ih0 _ _ _ _ _ _)
      | (with_reducible exact ih1 _ _ _ _ _ _ _ _)
      | (with_reducible exact ih2 _ _ _ _ _ _ _ _)
      | (with_reducible exact ih3 _ _ _ _ _)
      | (with_reducible exact ih4 _ _ _ _ _)
      | (with_reducible exact pantrylaw20_small.mono _)
      | (with_reducible exact picks_Next.mono _ _ _)
      | (with_reducible exact picks_Steps.mono _ _ _)
      | (with_reducible exact LeO.refl _)
      | (with_reducible exact LeO.none _)
      | (with_reducible refine LeO.ite ?_ ?_)
      | (with_reducible refine LeO.bind ?_ (fun _ => ?_))
      | exact ih0 _ _ _ _ _ _
      | exact ih1 _ _ _ _ _ _ _ _
      | exact ih2 _ _ _ _ _ _ _ _
      | exact ih3 _ _ _ _ _
      | exact ih4 _ _ _ _ _
      | exact pantrylaw20_small.mono _
      | exact picks_Next.mono _ _ _
      | exact picks_Steps.mono _ _ _
      | exact LeO.none _
      | refine LeO.ite ?_ ?_
      | refine LeO.bind ?_ (fun _ => ?_)
    · intro y0 y1 y2 y3 y4
      unfold pantrylaw20_PicksSteps.l2
      repeat' first
      | (with_reducible exact ih0 _ _ _ _ _ _)
      | (with_reducible exact ih1 _ _ _ _ _ _ _ _)
      | (with_reducible exact ih2 _ _ _ _ _ _ _ _)
      | (with_reducible exact ih3 _ _ _ _ _)
      | (with_reducible exact ih4 _ _ _ _ _)
      | (with_reducible exact pantrylaw20_small.mono _)
      | (with_reducible exact picks_Next.mono _ _ _)
      | (with_reducible exact picks_Steps.mono _ _ _)
      | (with_reducible exact LeO.refl _)
      | (with_reducible exact LeO.none _)
      | (with_reducible refine LeO.ite ?_ ?_)
      | (with_reducible refine LeO.bind ?_ (fun _ => ?_))
      | exact ih0 _ _ _ _ _ _
      | exact ih1 _ _ _ _ _ _ _ _
      | exact ih2 _ _ _ _ _ _ _ _
      | exact ih3 _ _ _ _ _
      | exact ih4 _ _ _ _ _
      | exact pantrylaw20_small.mono _
      | exact picks_Next.mono _ _ _
      | exact picks_Steps.mono _ _ _
      | exact LeO.none _
      | refine LeO.ite ?_ ?_
      | refine LeO.bind ?_ (fun _ => ?_)
theorem pantrylaw20_PicksSteps.mono : ∀ a0 a1 a2 a3 k, LeO (pantrylaw20_PicksSteps.f k a0 a1 a2 a3) (pantrylaw20_PicksSteps.f (k + 1) a0 a1 a2 a3) := by
  intro a0 a1 a2 a3 k
  obtain ⟨ih0, ih1, ih2, ih3, ih4⟩ := pantrylaw20_PicksSteps.mono_l k
  unfold pantrylaw20_PicksSteps.f
  repeat' first
      | (with_reducible exact ih0 _ _ _ _ _ _)
      | (with_reducible exact ih1 _ _ _ _ _ _ _ _)
      | (with_reducible exact ih2 _ _ _ _ _ _ _ _)
      | (with_reducible exact ih3 _ _ _ _ _)
      | (with_reducible exact ih4 _ _ _ _ _)
      | (with_reducible exact pantrylaw20_small.mono _)
      | (with_reducible exact picks_Next.mono _ _ _)
      | (with_reducible exact picks_Steps.mono _ _ _)
      | (with_reducible exact LeO.refl _)
      | (with_reducible exact LeO.none _)
      | (with_reducible refine LeO.ite ?_ ?_)
      | (with_reducible refine LeO.bind ?_ (fun _ => ?_))
      | exact ih0 _ _ _ _ _ _
      | exact ih1 _ _ _ _ _ _ _ _
      | exact ih2 _ _ _ _ _ _ _ _
      | exact ih3 _ _ _ _ _
      | exact ih4 _ _ _ _ _
      | exact pantrylaw20_small.mono _
      | exact picks_Next.mono _ _ _
      | exact picks_Steps.mono _ _ _
      | exact LeO.none _
      | refine LeO.ite ?_ ?_
      | refine LeO.bind ?_ (fun _ => ?_)
set_option maxHeartbeats 8000000 in
set_option maxRecDepth 100000 in
theorem pantrylaw20_PicksSteps.calls (k : Nat) (A0 : Option Addr) (c0 : Nat) (l0 : List Int) (A1 : Option Addr) (c1 : Nat) (l1 : List Int) (a2 : Int) (A3 : Option Addr) (c3 : Nat) (l3 : List Bool) (r : Bool) (w : World) (hr0 : Kd.C (Kd.int .i64) w A0 l0.length l0) (hc0 : l0.length ≤ c0) (hr1 : Kd.C (Kd.int .i64) w A1 l1.length l1) (hc1 : l1.length ≤ c1) (hr3 : Kd.C Kd.bool w A3 l3.length l3) (hc3 : l3.length ≤ c3) (h : pantrylaw20_PicksSteps.f k l0 l1 a2 l3 = some r) :
    Calls Try.prog 7 #[.slice A0 l0.length c0, .slice A1 l1.length c1, .int .i64 a2, .slice A3 l3.length c3] w fun e w' => e = .returned (.bool r) ∧ Below w.heap.size w w' := by
  have HR0 := Aside0.mk hr0
  have HC0 := Aside0.mk hc0
  clear hr0 hc0
  have HR1 := Aside0.mk hr1
  have HC1 := Aside0.mk hc1
  clear hr1 hc1
  have HR3 := Aside0.mk hr3
  have HC3 := Aside0.mk hc3
  clear hr3 hc3
  have HB := Aside0.mk (Below.refl w.heap.size w)
  have H : ((pantrylaw20_small.f k).bind fun t216 => (if (l0.length : Int) > 100 then (pantrylaw20_PicksSteps.j0 k l0 l1 a2 l3 t216 true) else (if (l1.length : Int) > 100 then (pantrylaw20_PicksSteps.j0 k l0 l1 a2 l3 t216 true) else (if a2 < 1 then (pantrylaw20_PicksSteps.j0 k l0 l1 a2 l3 t216 true) else (if a2 > 100 then (pantrylaw20_PicksSteps.j0 k l0 l1 a2 l3 t216 true) else (pantrylaw20_PicksSteps.j0 k l0 l1 a2 l3 t216 (decide ((l3.length : Int) > 100)))))))) = some r := h
  clear h
  replace H := Option.bind_eq_some_iff.mp H
  obtain ⟨t216, A50, H⟩ := H
  replace H : (if (l0.length : Int) > 100 then (pantrylaw20_PicksSteps.j0 k l0 l1 a2 l3 t216 true) else (if (l1.length : Int) > 100 then (pantrylaw20_PicksSteps.j0 k l0 l1 a2 l3 t216 true) else (if a2 < 1 then (pantrylaw20_PicksSteps.j0 k l0 l1 a2 l3 t216 true) else (if a2 > 100 then (pantrylaw20_PicksSteps.j0 k l0 l1 a2 l3 t216 true) else (pantrylaw20_PicksSteps.j0 k l0 l1 a2 l3 t216 (decide ((l3.length : Int) > 100))))))) = some r := H
  have A5 := Aside0.mk A50
  clear A50
  have HC6 := Aside0.mk H
  clear H
  go_enter Try.func7, Try.ntmps7
  go_upto_region 2 with (first | (go_at_call 9; (with_reducible refine (pantrylaw20_small.calls k  t216 _ A5.out).mono ?_); rintro e w7 ⟨rfl, hb⟩; have n0_ := Aside0.mk (below_step (by repeat (first | (with_reducible first | exact HB.out | apply below_alloc | apply pw_below_drewN | apply below_drew1) | exact HB.out)) hb); clear HB; have HB := n0_; clear n0_; (try clear hb); (try clear hb2); (try clear hk); (try clear hi)))
  repeat (go_quiet (first | (go_at_call 9; (with_reducible refine (pantrylaw20_small.calls k  t216 _ A5.out).mono ?_); rintro e w7 ⟨rfl, hb⟩; have n0_ := Aside0.mk (below_step (by repeat (first | (with_reducible first | exact HB.out | apply below_alloc | apply pw_below_drewN | apply below_drew1) | exact HB.out)) hb); clear HB; have HB := n0_; clear n0_; (try clear hb); (try clear hb2); (try clear hk); (try clear hi))); go_upto_region 2 with (first | (go_at_call 9; (with_reducible refine (pantrylaw20_small.calls k  t216 _ A5.out).mono ?_); rintro e w7 ⟨rfl, hb⟩; have n0_ := Aside0.mk (below_step (by repeat (first | (with_reducible first | exact HB.out | apply below_alloc | apply pw_below_drewN | apply below_drew1) | exact HB.out)) hb); clear HB; have HB := n0_; clear n0_; (try clear hb); (try clear hb2); (try clear hk); (try clear hi))))
  (try simp only [Act.put, List.setIfInBounds_toArray, List.set_cons_zero, List.set_cons_succ])
  go_cut [39] (fun v39 wc => ∃ (kq : Nat) (x39_5 : Bool), v39 = .bool x39_5 ∧ Aside0 (pantrylaw20_PicksSteps.j0 kq l0 l1 a2 l3 t216 x39_5 = some r) ∧ Aside0 (kq ≤ k) ∧ Aside0 (Below w.heap.size w wc))
  case first =>
    have H := HC6.out
    clear HC6
    by_cases c8 : (l0.length : Int) > 100
    · rw [if_pos c8] at H
      have c8b0 : decide (100 < (l0.length : Int)) = true := decide_eq_true c8
      have c8b1 : decide (100 < l0.length) = true := decide_eq_true (by omega)
      clear c8
      (first | rw [c8b0] | (simp only [i64_w, i32_w]; rw [c8b0]) | skip)
      have H' := Aside0.mk H
      clear H
      go_wp2
      repeat (go_quiet (fail); try go_wp2)
      go_meet
      case rel => exact ⟨_, (true), (by first | rfl | (simp; done) | (simp [*]; done)), H', ⟨by first | omega | exact Nat.le_refl _⟩, ⟨by repeat (first | (with_reducible first | exact HB.out | apply below_alloc | apply pw_below_drewN | apply below_drew1) | exact HB.out)⟩⟩
    · rw [if_neg c8] at H
      have c8b0 : decide (100 < (l0.length : Int)) = false := decide_eq_false c8
      have c8b1 : decide (100 < l0.length) = false := decide_eq_false (by omega)
      clear c8
      (first | rw [c8b0] | (simp only [i64_w, i32_w]; rw [c8b0]) | skip)
      by_cases c9 : (l1.length : Int) > 100
      · rw [if_pos c9] at H
        have c9b0 : decide (100 < (l1.length : Int)) = true := decide_eq_true c9
        have c9b1 : decide (100 < l1.length) = true := decide_eq_true (by omega)
        clear c9
        have H' := Aside0.mk H
        clear H
        go_wp2
        repeat (go_quiet (fail); try go_wp2)
        go_meet
        case rel => exact ⟨_, (true), (by first | rfl | (simp; done) | (simp [*]; done)), H', ⟨by first | omega | exact Nat.le_refl _⟩, ⟨by repeat (first | (with_reducible first | exact HB.out | apply below_alloc | apply pw_below_drewN | apply below_drew1) | exact HB.out)⟩⟩
      · rw [if_neg c9] at H
        have c9b0 : decide (100 < (l1.length : Int)) = false := decide_eq_false c9
        have c9b1 : decide (100 < l1.length) = false := decide_eq_false (by omega)
        clear c9
        by_cases c10 : a2 < 1
        · rw [if_pos c10] at H
          have c10b0 : decide (a2 < 1) = true := decide_eq_true c10
          clear c10
          have H' := Aside0.mk H
          clear H
          go_wp2
          repeat (go_quiet (fail); try go_wp2)
          go_meet
          case rel => exact ⟨_, (true), (by first | rfl | (simp; done) | (simp [*]; done)), H', ⟨by first | omega | exact Nat.le_refl _⟩, ⟨by repeat (first | (with_reducible first | exact HB.out | apply below_alloc | apply pw_below_drewN | apply below_drew1) | exact HB.out)⟩⟩
        · rw [if_neg c10] at H
          have c10b0 : decide (a2 < 1) = false := decide_eq_false c10
          clear c10
          by_cases c11 : a2 > 100
          · rw [if_pos c11] at H
            have c11b0 : decide (100 < a2) = true := decide_eq_true c11
            clear c11
            have H' := Aside0.mk H
            clear H
            go_wp2
            repeat (go_quiet (fail); try go_wp2)
            go_meet
            case rel => exact ⟨_, (true), (by first | rfl | (simp; done) | (simp [*]; done)), H', ⟨by first | omega | exact Nat.le_refl _⟩, ⟨by repeat (first | (with_reducible first | exact HB.out | apply below_alloc | apply pw_below_drewN | apply below_drew1) | exact HB.out)⟩⟩
          · rw [if_neg c11] at H
            have c11b0 : decide (100 < a2) = false := decide_eq_false c11
            clear c11
            have H' := Aside0.mk H
            clear H
            go_wp2
            repeat (go_quiet (fail); try go_wp2)
            go_meet
            case rel => exact ⟨_, (decide ((l3.length : Int) > 100)), (by first | rfl | (simp; done) | (simp [*]; done)), H', ⟨by first | omega | exact Nat.le_refl _⟩, ⟨by repeat (first | (with_reducible first | exact HB.out | apply below_alloc | apply pw_below_drewN | apply below_drew1) | exact HB.out)⟩⟩
  case rest =>
    clear HC6
    try clear c1
    try clear p2
    try clear c3
    try clear c7
    try clear c8
    try clear c8b0
    try clear c8b1
    try clear c9
    try clear c9b0
    try clear c9b1
    try clear c10
    try clear c10b0
    try clear c11
    try clear c11b0
    obtain ⟨kq, x39_5, rfl, HA, HJ5, HB⟩ := hcut
    cases kq with
    | zero => exact absurd HA.out (by simp [pantrylaw20_PicksSteps.j0])
    | succ kj5 =>
      have H := HA.out
      clear HA
      simp only [pantrylaw20_PicksSteps.j0] at H
      by_cases c12 : x39_5 = true
      · subst c12
        have H1 : (some t216) = some r := by rw [if_pos rfl] at H; exact H
        clear H
        have H := H1
        clear H1
        obtain rfl := Option.some.inj H
        go_wp2
        repeat (go_quiet (fail); try go_wp2)
        go_ret
        exact ⟨by first | rfl | (simp [errW_none, errW_some] <;> rfl) | (simp [*, errW_none, errW_some] <;> rfl), by repeat (first | (with_reducible first | exact HB.out | apply below_alloc | apply pw_below_drewN | apply below_drew1) | exact HB.out)⟩
      · replace c12 := Bool.eq_false_iff.mpr c12
        subst c12
        have H1 : ((picks_Steps.f kj5 l0 a2).bind fun t217 => ((picks_Steps.f kj5 l1 a2).bind fun t220 => ((some (([] : List Int) : List Int)).bind fun y223 => (if y223.length + l0.length < 17592186044416 then ((some (y223 ++ l0 : List Int)).bind fun y226 => (if y226.length + l1.length < 17592186044416 then ((picks_Steps.f kj5 (y226 ++ l1) a2).bind fun t232 => (if (t217.length : Int) = a2 then (if (t220.length : Int) = a2 then (pantrylaw20_PicksSteps.j1 kj5 l0 a2 l3 t216 t217 t220 t232 ((t232.length : Int) != a2)) else (pantrylaw20_PicksSteps.j1 kj5 l0 a2 l3 t216 t217 t220 t232 true)) else (pantrylaw20_PicksSteps.j1 kj5 l0 a2 l3 t216 t217 t220 t232 true))) else (none))) else (none))))) = some r := by rw [if_neg (show ¬ (false = true) by decide)] at H; exact H
        clear H
        have H := H1
        clear H1
        replace H := Option.bind_eq_some_iff.mp H
        obtain ⟨t217, A130, H⟩ := H
        replace H : ((picks_Steps.f kj5 l1 a2).bind fun t220 => ((some (([] : List Int) : List Int)).bind fun y223 => (if y223.length + l0.length < 17592186044416 then ((some (y223 ++ l0 : List Int)).bind fun y226 => (if y226.length + l1.length < 17592186044416 then ((picks_Steps.f kj5 (y226 ++ l1) a2).bind fun t232 => (if (t217.length : Int) = a2 then (if (t220.length : Int) = a2 then (pantrylaw20_PicksSteps.j1 kj5 l0 a2 l3 t216 t217 t220 t232 ((t232.length : Int) != a2)) else (pantrylaw20_PicksSteps.j1 kj5 l0 a2 l3 t216 t217 t220 t232 true)) else (pantrylaw20_PicksSteps.j1 kj5 l0 a2 l3 t216 t217 t220 t232 true))) else (none))) else (none)))) = some r := H
        have A13 := Aside0.mk A130
        clear A130
        replace H := Option.bind_eq_some_iff.mp H
        obtain ⟨t220, A140, H⟩ := H
        replace H : ((some (([] : List Int) : List Int)).bind fun y223 => (if y223.length + l0.length < 17592186044416 then ((some (y223 ++ l0 : List Int)).bind fun y226 => (if y226.length + l1.length < 17592186044416 then ((picks_Steps.f kj5 (y226 ++ l1) a2).bind fun t232 => (if (t217.length : Int) = a2 then (if (t220.length : Int) = a2 then (pantrylaw20_PicksSteps.j1 kj5 l0 a2 l3 t216 t217 t220 t232 ((t232.length : Int) != a2)) else (pantrylaw20_PicksSteps.j1 kj5 l0 a2 l3 t216 t217 t220 t232 true)) else (pantrylaw20_PicksSteps.j1 kj5 l0 a2 l3 t216 t217 t220 t232 true))) else (none))) else (none))) = some r := H
        have A14 := Aside0.mk A140
        clear A140
        obtain ⟨y223, hy223⟩ : ∃ y_ : List Int, y_ = (([] : List Int)) := ⟨_, rfl⟩
        replace H : (if y223.length + l0.length < 17592186044416 then ((some (y223 ++ l0 : List Int)).bind fun y226 => (if y226.length + l1.length < 17592186044416 then ((picks_Steps.f kj5 (y226 ++ l1) a2).bind fun t232 => (if (t217.length : Int) = a2 then (if (t220.length : Int) = a2 then (pantrylaw20_PicksSteps.j1 kj5 l0 a2 l3 t216 t217 t220 t232 ((t232.length : Int) != a2)) else (pantrylaw20_PicksSteps.j1 kj5 l0 a2 l3 t216 t217 t220 t232 true)) else (pantrylaw20_PicksSteps.j1 kj5 l0 a2 l3 t216 t217 t220 t232 true))) else (none))) else (none)) = some r := by first | (rw [hy223]; with_reducible exact H) | (have H2_ := (Option.bind_some _ _).symm.trans H; rw [hy223]; with_reducible exact H2_) | (have H2_ := (Option.bind_some _ _).symm.trans H; with_reducible exact H2_) | with_reducible exact H | (rw [hy223]; exact H) | exact H
        have Ny223 := Aside0.mk hy223
        clear hy223
        by_cases c15 : y223.length + l0.length < 17592186044416
        · rw [if_pos c15] at H
          have LMc15 := Aside0.mk c15
          clear c15
          obtain ⟨y226, hy226⟩ : ∃ y_ : List Int, y_ = (y223 ++ l0) := ⟨_, rfl⟩
          replace H : (if y226.length + l1.length < 17592186044416 then ((picks_Steps.f kj5 (y226 ++ l1) a2).bind fun t232 => (if (t217.length : Int) = a2 then (if (t220.length : Int) = a2 then (pantrylaw20_PicksSteps.j1 kj5 l0 a2 l3 t216 t217 t220 t232 ((t232.length : Int) != a2)) else (pantrylaw20_PicksSteps.j1 kj5 l0 a2 l3 t216 t217 t220 t232 true)) else (pantrylaw20_PicksSteps.j1 kj5 l0 a2 l3 t216 t217 t220 t232 true))) else (none)) = some r := by first | (rw [hy226]; with_reducible exact H) | (have H2_ := (Option.bind_some _ _).symm.trans H; rw [hy226]; with_reducible exact H2_) | (have H2_ := (Option.bind_some _ _).symm.trans H; with_reducible exact H2_) | with_reducible exact H | (rw [hy226]; exact H) | exact H
          have Ny226 := Aside0.mk hy226
          clear hy226
          by_cases c16 : y226.length + l1.length < 17592186044416
          · rw [if_pos c16] at H
            have LMc16 := Aside0.mk c16
            clear c16
            obtain ⟨y229, hy229⟩ : ∃ y_ : List Int, y_ = (y226 ++ l1) := ⟨_, rfl⟩
            replace H : ((picks_Steps.f kj5 y229 a2).bind fun t232 => (if (t217.length : Int) = a2 then (if (t220.length : Int) = a2 then (pantrylaw20_PicksSteps.j1 kj5 l0 a2 l3 t216 t217 t220 t232 ((t232.length : Int) != a2)) else (pantrylaw20_PicksSteps.j1 kj5 l0 a2 l3 t216 t217 t220 t232 true)) else (pantrylaw20_PicksSteps.j1 kj5 l0 a2 l3 t216 t217 t220 t232 true))) = some r := by first | (rw [hy229]; with_reducible exact H) | (have H2_ := (Option.bind_some _ _).symm.trans H; rw [hy229]; with_reducible exact H2_) | (have H2_ := (Option.bind_some _ _).symm.trans H; with_reducible exact H2_) | with_reducible exact H | (rw [hy229]; exact H) | exact H
            have Ny229 := Aside0.mk hy229
            clear hy229
            replace H := Option.bind_eq_some_iff.mp H
            obtain ⟨t232, A170, H⟩ := H
            replace H : (if (t217.length : Int) = a2 then (if (t220.length : Int) = a2 then (pantrylaw20_PicksSteps.j1 kj5 l0 a2 l3 t216 t217 t220 t232 ((t232.length : Int) != a2)) else (pantrylaw20_PicksSteps.j1 kj5 l0 a2 l3 t216 t217 t220 t232 true)) else (pantrylaw20_PicksSteps.j1 kj5 l0 a2 l3 t216 t217 t220 t232 true)) = some r := H
            have A17 := Aside0.mk A170
            clear A170
            have HC18 := Aside0.mk H
            clear H
            go_upto_region 7 with (first | (go_at_call 13; (with_reducible refine (picks_Steps.calls kj5 _ _ l0 a2 t217 _ ?side1 ?side2 A13.out).mono ?_); (case side1 => repeat (first | exact (Kd.C_below HR0.out HB.out) | (with_reducible refine Kd.C_alloc ?_ _) | (with_reducible refine Kd.C_drewN ?_ _) | (with_reducible refine Kd.C_drew ?_))); (case side2 => exact HC0.out); rintro e w19 ⟨v218, rfl, ho0, hb⟩; have n0_ := Aside0.mk (Kd.R_lower ho0 (below_size (by repeat (first | (with_reducible first | exact HB.out | apply below_alloc | apply pw_below_drewN | apply below_drew1) | exact HB.out)))); have n1_ := Aside0.mk (below_step (by repeat (first | (with_reducible first | exact HB.out | apply below_alloc | apply pw_below_drewN | apply below_drew1) | exact HB.out)) hb); clear HB; have HO219 := n0_; have HB := n1_; clear n0_ n1_; (try clear hb); (try clear hb2); (try clear hk); (try clear hi); (try clear ho0)) | (go_at_call 13; (with_reducible refine (picks_Steps.calls kj5 _ _ l1 a2 t220 _ ?side1 ?side2 A14.out).mono ?_); (case side1 => repeat (first | exact (Kd.C_below HR1.out HB.out) | (with_reducible refine Kd.C_alloc ?_ _) | (with_reducible refine Kd.C_drewN ?_ _) | (with_reducible refine Kd.C_drew ?_))); (case side2 => exact HC1.out); rintro e w20 ⟨v221, rfl, ho0, hb⟩; have n0_ := Aside0.mk (Kd.R_elder' (by (with_reducible repeat (first | apply Kd.R_alloc | apply Kd.R_drewN | apply Kd.R_drew)); exact HO219.out) (Kd.R_base ho0) hb); have n1_ := Aside0.mk (Kd.R_lower (Kd.R_new' ho0 (Kd.R_lt (by (with_reducible repeat (first | apply Kd.R_alloc | apply Kd.R_drewN | apply Kd.R_drew)); exact HO219.out))) (below_size (by repeat (first | (with_reducible first | exact HB.out | apply below_alloc | apply pw_below_drewN | apply below_drew1) | exact HB.out)))); have n2_ := Aside0.mk (below_step (by repeat (first | (with_reducible first | exact HB.out | apply below_alloc | apply pw_below_drewN | apply below_drew1) | exact HB.out)) hb); clear HO219; clear HB; have HO219 := n0_; have HO222 := n1_; have HB := n2_; clear n0_ n1_ n2_; (try clear hb); (try clear hb2); (try clear hk); (try clear hi); (try clear ho0)) | ((with_reducible refine gate_dst (N := 47) rfl ?_); (try (refine gate_guard (by rfl) ?_; dsimp only)); refine Kd.R_lit (Kd.int .i64) _ 3 ?hg (N := 47) ?hd (xs := ([] : List Int)) (inner := []) (ok := fun _ => True) (okp := fun _ => True) ?hr ?hp (fun _ hk => hk) trivial (Below.refl _ _) (Nat.le_refl _) (by simp) ?_; (case hd => rfl); (case hg => rfl); (case hr => first | (go_simp; done) | (go_simp; rfl)); (case hp => exact (Reps.none _ _)); intro v224 w21 ho22 hb hg_ hnew_; clear hg_ hnew_; (first | rw [← Ny223.out] at ho22 | (simp only [Int.reduceToNat] at ho22; rw [← Ny223.out] at ho22)); have n0_ := Aside0.mk (Kd.R_elder' (by (with_reducible repeat (first | apply Kd.R_alloc | apply Kd.R_drewN | apply Kd.R_drew)); exact HO219.out) (Kd.R_base ho22) hb); have n1_ := Aside0.mk (Kd.R_elder' (by (with_reducible repeat (first | apply Kd.R_alloc | apply Kd.R_drewN | apply Kd.R_drew)); exact HO222.out) (Kd.R_base ho22) hb); have n2_ := Aside0.mk (Kd.R_lower (Kd.R_new' (Kd.R_new' ho22 (Kd.R_lt (by (with_reducible repeat (first | apply Kd.R_alloc | apply Kd.R_drewN | apply Kd.R_drew)); exact HO219.out))) (Kd.R_lt (by (with_reducible repeat (first | apply Kd.R_alloc | apply Kd.R_drewN | apply Kd.R_drew)); exact HO222.out))) (below_size (by repeat (first | (with_reducible first | exact HB.out | apply below_alloc | apply pw_below_drewN | apply below_drew1) | exact HB.out)))); have n3_ := Aside0.mk (below_step (by repeat (first | (with_reducible first | exact HB.out | apply below_alloc | apply pw_below_drewN | apply below_drew1) | exact HB.out)) hb); clear HO219; clear HO222; clear HB; have HO219 := n0_; have HO222 := n1_; have HO225 := n2_; have HB := n3_; clear n0_ n1_ n2_ n3_; clear hb ho22) | ((with_reducible refine gate_builtin (b := .append) (xs := #[.tmp 47, .tmp 48]) rfl ?_); (try (refine gate_guard (by rfl) ?_; dsimp only)); at_builtin; refine Kd.R_append_rows (Kd.int .i64) (w0 := w) w.heap.size rfl (.tmp 47) (.tmp 48) 23 3 (.int .i64 0) 8 rfl Try.underlying23 info3 rfl (by decide) (by omega) v224 y223 l0 _ _ _ (fun k_ => some k_ ≠ (v218 : Value).ownBlock ∧ some k_ ≠ (v221 : Value).ownBlock) (fun _ => False) rfl rfl ?aO ?aR (fun _ _ h => h) (fun _ h => h.elim) ?aF ?aB ?aS ?aL ?_; (case aR => repeat (first | exact (Kd.C_below HR0.out HB.out) | (with_reducible refine Kd.C_alloc ?_ _) | (with_reducible refine Kd.C_drewN ?_ _) | (with_reducible refine Kd.C_drew ?_))); (case aB => exact (by repeat (first | (with_reducible first | exact HB.out | apply below_alloc | apply pw_below_drewN | apply below_drew1) | exact HB.out))); (case aF => exact (fun k_ hk => ⟨Kd.fresh' (Kd.R_lt (by (with_reducible repeat (first | apply Kd.R_alloc | apply Kd.R_drewN | apply Kd.R_drew)); exact HO219.out)) k_ hk, Kd.fresh' (Kd.R_lt (by (with_reducible repeat (first | apply Kd.R_alloc | apply Kd.R_drewN | apply Kd.R_drew)); exact HO222.out)) k_ hk⟩)); (case aO => exact (by (with_reducible repeat (first | apply Kd.R_alloc | apply Kd.R_drewN | apply Kd.R_drew)); exact Kd.R_mono HO225.out (fun _ hk => ⟨hk.1.2, hk.2⟩))); (case aS => exact (below_size (by repeat (first | (with_reducible first | exact HB.out | apply below_alloc | apply pw_below_drewN | apply below_drew1) | exact HB.out)))); (case aL => have := LMc15.out; omega); intro v227 w23 ho hb hg hat; rw [← Ny226.out] at ho; have n0_ := Aside0.mk (Kd.R_after (ok := (fun k_ => some k_ ≠ (v221 : Value).ownBlock)) (by (with_reducible repeat (first | apply Kd.R_alloc | apply Kd.R_drewN | apply Kd.R_drew)); exact Kd.R_mono HO219.out (fun _ hk => ⟨hk.1.2, hk.2⟩)) hg hat); have n1_ := Aside0.mk (Kd.R_after (ok := (fun k_ => some k_ ≠ (v218 : Value).ownBlock)) (by (with_reducible repeat (first | apply Kd.R_alloc | apply Kd.R_drewN | apply Kd.R_drew)); exact Kd.R_mono HO222.out (fun _ hk => ⟨hk.1.2, hk.2⟩)) hg hat); have n2_ := Aside0.mk (hb); have n3_ := Aside0.mk (ho); clear HO219; clear HO222; clear HB; clear HO225; have HO219 := n0_; have HO222 := n1_; have HB := n2_; have HO228 := n3_; clear n0_ n1_ n2_ n3_; clear ho hb hg hat) | ((with_reducible refine gate_builtin (b := .append) (xs := #[.tmp 49, .tmp 50]) rfl ?_); (try (refine gate_guard (by rfl) ?_; dsimp only)); at_builtin; refine Kd.R_append_rows (Kd.int .i64) (w0 := w) w.heap.size rfl (.tmp 49) (.tmp 50) 23 3 (.int .i64 0) 8 rfl Try.underlying23 info3 rfl (by decide) (by omega) v227 y226 l1 _ _ _ (fun k_ => some k_ ≠ (v218 : Value).ownBlock ∧ some k_ ≠ (v221 : Value).ownBlock) (fun _ => False) rfl rfl ?aO ?aR (fun _ _ h => h) (fun _ h => h.elim) ?aF ?aB ?aS ?aL ?_; (case aR => repeat (first | exact (Kd.C_below HR1.out HB.out) | (with_reducible refine Kd.C_alloc ?_ _) | (with_reducible refine Kd.C_drewN ?_ _) | (with_reducible refine Kd.C_drew ?_))); (case aB => exact (by repeat (first | (with_reducible first | exact HB.out | apply below_alloc | apply pw_below_drewN | apply below_drew1) | exact HB.out))); (case aF => exact (fun k_ hk => ⟨Kd.fresh' (Kd.R_lt (by (with_reducible repeat (first | apply Kd.R_alloc | apply Kd.R_drewN | apply Kd.R_drew)); exact HO219.out)) k_ hk, Kd.fresh' (Kd.R_lt (by (with_reducible repeat (first | apply Kd.R_alloc | apply Kd.R_drewN | apply Kd.R_drew)); exact HO222.out)) k_ hk⟩)); (case aO => exact (by (with_reducible repeat (first | apply Kd.R_alloc | apply Kd.R_drewN | apply Kd.R_drew)); exact HO228.out)); (case aS => exact (below_size (by repeat (first | (with_reducible first | exact HB.out | apply below_alloc | apply pw_below_drewN | apply below_drew1) | exact HB.out)))); (case aL => have := LMc16.out; omega); intro v230 w24 ho hb hg hat; rw [← Ny229.out] at ho; have n0_ := Aside0.mk (Kd.R_after (ok := (fun k_ => some k_ ≠ (v221 : Value).ownBlock)) (by (with_reducible repeat (first | apply Kd.R_alloc | apply Kd.R_drewN | apply Kd.R_drew)); exact HO219.out) hg hat); have n1_ := Aside0.mk (Kd.R_after (ok := (fun k_ => some k_ ≠ (v218 : Value).ownBlock)) (by (with_reducible repeat (first | apply Kd.R_alloc | apply Kd.R_drewN | apply Kd.R_drew)); exact HO222.out) hg hat); have n2_ := Aside0.mk (hb); have n3_ := Aside0.mk (ho); clear HO219; clear HO222; clear HB; clear HO228; have HO219 := n0_; have HO222 := n1_; have HB := n2_; have HO231 := n3_; clear n0_ n1_ n2_ n3_; clear ho hb hg hat; obtain ⟨Ao25, co25, eo25⟩ := Kd.R_slice HO231.out; subst eo25) | (go_at_call 13; (with_reducible refine (picks_Steps.calls kj5 _ _ y229 a2 t232 _ ?side1 ?side2 A17.out).mono ?_); (case side1 => repeat (first | exact (Kd.R_reads' HO231.out).2.2 | (with_reducible refine Kd.C_alloc ?_ _) | (with_reducible refine Kd.C_drewN ?_ _) | (with_reducible refine Kd.C_drew ?_))); (case side2 => exact (Kd.R_reads' HO231.out).2.1); rintro e w26 ⟨v233, rfl, ho0, hb⟩; have n0_ := Aside0.mk (Kd.R_elder' (by (with_reducible repeat (first | apply Kd.R_alloc | apply Kd.R_drewN | apply Kd.R_drew)); exact HO219.out) (Kd.R_base ho0) hb); have n1_ := Aside0.mk (Kd.R_elder' (by (with_reducible repeat (first | apply Kd.R_alloc | apply Kd.R_drewN | apply Kd.R_drew)); exact HO222.out) (Kd.R_base ho0) hb); have n2_ := Aside0.mk (Kd.R_elder' (by (with_reducible repeat (first | apply Kd.R_alloc | apply Kd.R_drewN | apply Kd.R_drew)); exact HO231.out) (Kd.R_base ho0) hb); have n3_ := Aside0.mk (Kd.R_lower (Kd.R_new' (Kd.R_new' (Kd.R_new' ho0 (Kd.R_lt (by (with_reducible repeat (first | apply Kd.R_alloc | apply Kd.R_drewN | apply Kd.R_drew)); exact HO219.out))) (Kd.R_lt (by (with_reducible repeat (first | apply Kd.R_alloc | apply Kd.R_drewN | apply Kd.R_drew)); exact HO222.out))) (Kd.R_lt (by (with_reducible repeat (first | apply Kd.R_alloc | apply Kd.R_drewN | apply Kd.R_drew)); exact HO231.out))) (below_size (by repeat (first | (with_reducible first | exact HB.out | apply below_alloc | apply pw_below_drewN | apply below_drew1) | exact HB.out)))); have n4_ := Aside0.mk (below_step (by repeat (first | (with_reducible first | exact HB.out | apply below_alloc | apply pw_below_drewN | apply below_drew1) | exact HB.out)) hb); clear HO219; clear HO222; clear HO231; clear HB; have HO219 := n0_; have HO222 := n1_; have HO231 := n2_; have HO234 := n3_; have HB := n4_; clear n0_ n1_ n2_ n3_ n4_; (try clear hb); (try clear hb2); (try clear hk); (try clear hi); (try clear ho0)))
            repeat (go_quiet (first | (go_at_call 13; (with_reducible refine (picks_Steps.calls kj5 _ _ l0 a2 t217 _ ?side1 ?side2 A13.out).mono ?_); (case side1 => repeat (first | exact (Kd.C_below HR0.out HB.out) | (with_reducible refine Kd.C_alloc ?_ _) | (with_reducible refine Kd.C_drewN ?_ _) | (with_reducible refine Kd.C_drew ?_))); (case side2 => exact HC0.out); rintro e w19 ⟨v218, rfl, ho0, hb⟩; have n0_ := Aside0.mk (Kd.R_lower ho0 (below_size (by repeat (first | (with_reducible first | exact HB.out | apply below_alloc | apply pw_below_drewN | apply below_drew1) | exact HB.out)))); have n1_ := Aside0.mk (below_step (by repeat (first | (with_reducible first | exact HB.out | apply below_alloc | apply pw_below_drewN | apply below_drew1) | exact HB.out)) hb); clear HB; have HO219 := n0_; have HB := n1_; clear n0_ n1_; (try clear hb); (try clear hb2); (try clear hk); (try clear hi); (try clear ho0)) | (go_at_call 13; (with_reducible refine (picks_Steps.calls kj5 _ _ l1 a2 t220 _ ?side1 ?side2 A14.out).mono ?_); (case side1 => repeat (first | exact (Kd.C_below HR1.out HB.out) | (with_reducible refine Kd.C_alloc ?_ _) | (with_reducible refine Kd.C_drewN ?_ _) | (with_reducible refine Kd.C_drew ?_))); (case side2 => exact HC1.out); rintro e w20 ⟨v221, rfl, ho0, hb⟩; have n0_ := Aside0.mk (Kd.R_elder' (by (with_reducible repeat (first | apply Kd.R_alloc | apply Kd.R_drewN | apply Kd.R_drew)); exact HO219.out) (Kd.R_base ho0) hb); have n1_ := Aside0.mk (Kd.R_lower (Kd.R_new' ho0 (Kd.R_lt (by (with_reducible repeat (first | apply Kd.R_alloc | apply Kd.R_drewN | apply Kd.R_drew)); exact HO219.out))) (below_size (by repeat (first | (with_reducible first | exact HB.out | apply below_alloc | apply pw_below_drewN | apply below_drew1) | exact HB.out)))); have n2_ := Aside0.mk (below_step (by repeat (first | (with_reducible first | exact HB.out | apply below_alloc | apply pw_below_drewN | apply below_drew1) | exact HB.out)) hb); clear HO219; clear HB; have HO219 := n0_; have HO222 := n1_; have HB := n2_; clear n0_ n1_ n2_; (try clear hb); (try clear hb2); (try clear hk); (try clear hi); (try clear ho0)) | ((with_reducible refine gate_dst (N := 47) rfl ?_); (try (refine gate_guard (by rfl) ?_; dsimp only)); refine Kd.R_lit (Kd.int .i64) _ 3 ?hg (N := 47) ?hd (xs := ([] : List Int)) (inner := []) (ok := fun _ => True) (okp := fun _ => True) ?hr ?hp (fun _ hk => hk) trivial (Below.refl _ _) (Nat.le_refl _) (by simp) ?_; (case hd => rfl); (case hg => rfl); (case hr => first | (go_simp; done) | (go_simp; rfl)); (case hp => exact (Reps.none _ _)); intro v224 w21 ho22 hb hg_ hnew_; clear hg_ hnew_; (first | rw [← Ny223.out] at ho22 | (simp only [Int.reduceToNat] at ho22; rw [← Ny223.out] at ho22)); have n0_ := Aside0.mk (Kd.R_elder' (by (with_reducible repeat (first | apply Kd.R_alloc | apply Kd.R_drewN | apply Kd.R_drew)); exact HO219.out) (Kd.R_base ho22) hb); have n1_ := Aside0.mk (Kd.R_elder' (by (with_reducible repeat (first | apply Kd.R_alloc | apply Kd.R_drewN | apply Kd.R_drew)); exact HO222.out) (Kd.R_base ho22) hb); have n2_ := Aside0.mk (Kd.R_lower (Kd.R_new' (Kd.R_new' ho22 (Kd.R_lt (by (with_reducible repeat (first | apply Kd.R_alloc | apply Kd.R_drewN | apply Kd.R_drew)); exact HO219.out))) (Kd.R_lt (by (with_reducible repeat (first | apply Kd.R_alloc | apply Kd.R_drewN | apply Kd.R_drew)); exact HO222.out))) (below_size (by repeat (first | (with_reducible first | exact HB.out | apply below_alloc | apply pw_below_drewN | apply below_drew1) | exact HB.out)))); have n3_ := Aside0.mk (below_step (by repeat (first | (with_reducible first | exact HB.out | apply below_alloc | apply pw_below_drewN | apply below_drew1) | exact HB.out)) hb); clear HO219; clear HO222; clear HB; have HO219 := n0_; have HO222 := n1_; have HO225 := n2_; have HB := n3_; clear n0_ n1_ n2_ n3_; clear hb ho22) | ((with_reducible refine gate_builtin (b := .append) (xs := #[.tmp 47, .tmp 48]) rfl ?_); (try (refine gate_guard (by rfl) ?_; dsimp only)); at_builtin; refine Kd.R_append_rows (Kd.int .i64) (w0 := w) w.heap.size rfl (.tmp 47) (.tmp 48) 23 3 (.int .i64 0) 8 rfl Try.underlying23 info3 rfl (by decide) (by omega) v224 y223 l0 _ _ _ (fun k_ => some k_ ≠ (v218 : Value).ownBlock ∧ some k_ ≠ (v221 : Value).ownBlock) (fun _ => False) rfl rfl ?aO ?aR (fun _ _ h => h) (fun _ h => h.elim) ?aF ?aB ?aS ?aL ?_; (case aR => repeat (first | exact (Kd.C_below HR0.out HB.out) | (with_reducible refine Kd.C_alloc ?_ _) | (with_reducible refine Kd.C_drewN ?_ _) | (with_reducible refine Kd.C_drew ?_))); (case aB => exact (by repeat (first | (with_reducible first | exact HB.out | apply below_alloc | apply pw_below_drewN | apply below_drew1) | exact HB.out))); (case aF => exact (fun k_ hk => ⟨Kd.fresh' (Kd.R_lt (by (with_reducible repeat (first | apply Kd.R_alloc | apply Kd.R_drewN | apply Kd.R_drew)); exact HO219.out)) k_ hk, Kd.fresh' (Kd.R_lt (by (with_reducible repeat (first | apply Kd.R_alloc | apply Kd.R_drewN | apply Kd.R_drew)); exact HO222.out)) k_ hk⟩)); (case aO => exact (by (with_reducible repeat (first | apply Kd.R_alloc | apply Kd.R_drewN | apply Kd.R_drew)); exact Kd.R_mono HO225.out (fun _ hk => ⟨hk.1.2, hk.2⟩))); (case aS => exact (below_size (by repeat (first | (with_reducible first | exact HB.out | apply below_alloc | apply pw_below_drewN | apply below_drew1) | exact HB.out)))); (case aL => have := LMc15.out; omega); intro v227 w23 ho hb hg hat; rw [← Ny226.out] at ho; have n0_ := Aside0.mk (Kd.R_after (ok := (fun k_ => some k_ ≠ (v221 : Value).ownBlock)) (by (with_reducible repeat (first | apply Kd.R_alloc | apply Kd.R_drewN | apply Kd.R_drew)); exact Kd.R_mono HO219.out (fun _ hk => ⟨hk.1.2, hk.2⟩)) hg hat); have n1_ := Aside0.mk (Kd.R_after (ok := (fun k_ => some k_ ≠ (v218 : Value).ownBlock)) (by (with_reducible repeat (first | apply Kd.R_alloc | apply Kd.R_drewN | apply Kd.R_drew)); exact Kd.R_mono HO222.out (fun _ hk => ⟨hk.1.2, hk.2⟩)) hg hat); have n2_ := Aside0.mk (hb); have n3_ := Aside0.mk (ho); clear HO219; clear HO222; clear HB; clear HO225; have HO219 := n0_; have HO222 := n1_; have HB := n2_; have HO228 := n3_; clear n0_ n1_ n2_ n3_; clear ho hb hg hat) | ((with_reducible refine gate_builtin (b := .append) (xs := #[.tmp 49, .tmp 50]) rfl ?_); (try (refine gate_guard (by rfl) ?_; dsimp only)); at_builtin; refine Kd.R_append_rows (Kd.int .i64) (w0 := w) w.heap.size rfl (.tmp 49) (.tmp 50) 23 3 (.int .i64 0) 8 rfl Try.underlying23 info3 rfl (by decide) (by omega) v227 y226 l1 _ _ _ (fun k_ => some k_ ≠ (v218 : Value).ownBlock ∧ some k_ ≠ (v221 : Value).ownBlock) (fun _ => False) rfl rfl ?aO ?aR (fun _ _ h => h) (fun _ h => h.elim) ?aF ?aB ?aS ?aL ?_; (case aR => repeat (first | exact (Kd.C_below HR1.out HB.out) | (with_reducible refine Kd.C_alloc ?_ _) | (with_reducible refine Kd.C_drewN ?_ _) | (with_reducible refine Kd.C_drew ?_))); (case aB => exact (by repeat (first | (with_reducible first | exact HB.out | apply below_alloc | apply pw_below_drewN | apply below_drew1) | exact HB.out))); (case aF => exact (fun k_ hk => ⟨Kd.fresh' (Kd.R_lt (by (with_reducible repeat (first | apply Kd.R_alloc | apply Kd.R_drewN | apply Kd.R_drew)); exact HO219.out)) k_ hk, Kd.fresh' (Kd.R_lt (by (with_reducible repeat (first | apply Kd.R_alloc | apply Kd.R_drewN | apply Kd.R_drew)); exact HO222.out)) k_ hk⟩)); (case aO => exact (by (with_reducible repeat (first | apply Kd.R_alloc | apply Kd.R_drewN | apply Kd.R_drew)); exact HO228.out)); (case aS => exact (below_size (by repeat (first | (with_reducible first | exact HB.out | apply below_alloc | apply pw_below_drewN | apply below_drew1) | exact HB.out)))); (case aL => have := LMc16.out; omega); intro v230 w24 ho hb hg hat; rw [← Ny229.out] at ho; have n0_ := Aside0.mk (Kd.R_after (ok := (fun k_ => some k_ ≠ (v221 : Value).ownBlock)) (by (with_reducible repeat (first | apply Kd.R_alloc | apply Kd.R_drewN | apply Kd.R_drew)); exact HO219.out) hg hat); have n1_ := Aside0.mk (Kd.R_after (ok := (fun k_ => some k_ ≠ (v218 : Value).ownBlock)) (by (with_reducible repeat (first | apply Kd.R_alloc | apply Kd.R_drewN | apply Kd.R_drew)); exact HO222.out) hg hat); have n2_ := Aside0.mk (hb); have n3_ := Aside0.mk (ho); clear HO219; clear HO222; clear HB; clear HO228; have HO219 := n0_; have HO222 := n1_; have HB := n2_; have HO231 := n3_; clear n0_ n1_ n2_ n3_; clear ho hb hg hat; obtain ⟨Ao25, co25, eo25⟩ := Kd.R_slice HO231.out; subst eo25) | (go_at_call 13; (with_reducible refine (picks_Steps.calls kj5 _ _ y229 a2 t232 _ ?side1 ?side2 A17.out).mono ?_); (case side1 => repeat (first | exact (Kd.R_reads' HO231.out).2.2 | (with_reducible refine Kd.C_alloc ?_ _) | (with_reducible refine Kd.C_drewN ?_ _) | (with_reducible refine Kd.C_drew ?_))); (case side2 => exact (Kd.R_reads' HO231.out).2.1); rintro e w26 ⟨v233, rfl, ho0, hb⟩; have n0_ := Aside0.mk (Kd.R_elder' (by (with_reducible repeat (first | apply Kd.R_alloc | apply Kd.R_drewN | apply Kd.R_drew)); exact HO219.out) (Kd.R_base ho0) hb); have n1_ := Aside0.mk (Kd.R_elder' (by (with_reducible repeat (first | apply Kd.R_alloc | apply Kd.R_drewN | apply Kd.R_drew)); exact HO222.out) (Kd.R_base ho0) hb); have n2_ := Aside0.mk (Kd.R_elder' (by (with_reducible repeat (first | apply Kd.R_alloc | apply Kd.R_drewN | apply Kd.R_drew)); exact HO231.out) (Kd.R_base ho0) hb); have n3_ := Aside0.mk (Kd.R_lower (Kd.R_new' (Kd.R_new' (Kd.R_new' ho0 (Kd.R_lt (by (with_reducible repeat (first | apply Kd.R_alloc | apply Kd.R_drewN | apply Kd.R_drew)); exact HO219.out))) (Kd.R_lt (by (with_reducible repeat (first | apply Kd.R_alloc | apply Kd.R_drewN | apply Kd.R_drew)); exact HO222.out))) (Kd.R_lt (by (with_reducible repeat (first | apply Kd.R_alloc | apply Kd.R_drewN | apply Kd.R_drew)); exact HO231.out))) (below_size (by repeat (first | (with_reducible first | exact HB.out | apply below_alloc | apply pw_below_drewN | apply below_drew1) | exact HB.out)))); have n4_ := Aside0.mk (below_step (by repeat (first | (with_reducible first | exact HB.out | apply below_alloc | apply pw_below_drewN | apply below_drew1) | exact HB.out)) hb); clear HO219; clear HO222; clear HO231; clear HB; have HO219 := n0_; have HO222 := n1_; have HO231 := n2_; have HO234 := n3_; have HB := n4_; clear n0_ n1_ n2_ n3_ n4_; (try clear hb); (try clear hb2); (try clear hk); (try clear hi); (try clear ho0))); go_upto_region 7 with (first | (go_at_call 13; (with_reducible refine (picks_Steps.calls kj5 _ _ l0 a2 t217 _ ?side1 ?side2 A13.out).mono ?_); (case side1 => repeat (first | exact (Kd.C_below HR0.out HB.out) | (with_reducible refine Kd.C_alloc ?_ _) | (with_reducible refine Kd.C_drewN ?_ _) | (with_reducible refine Kd.C_drew ?_))); (case side2 => exact HC0.out); rintro e w19 ⟨v218, rfl, ho0, hb⟩; have n0_ := Aside0.mk (Kd.R_lower ho0 (below_size (by repeat (first | (with_reducible first | exact HB.out | apply below_alloc | apply pw_below_drewN | apply below_drew1) | exact HB.out)))); have n1_ := Aside0.mk (below_step (by repeat (first | (with_reducible first | exact HB.out | apply below_alloc | apply pw_below_drewN | apply below_drew1) | exact HB.out)) hb); clear HB; have HO219 := n0_; have HB := n1_; clear n0_ n1_; (try clear hb); (try clear hb2); (try clear hk); (try clear hi); (try clear ho0)) | (go_at_call 13; (with_reducible refine (picks_Steps.calls kj5 _ _ l1 a2 t220 _ ?side1 ?side2 A14.out).mono ?_); (case side1 => repeat (first | exact (Kd.C_below HR1.out HB.out) | (with_reducible refine Kd.C_alloc ?_ _) | (with_reducible refine Kd.C_drewN ?_ _) | (with_reducible refine Kd.C_drew ?_))); (case side2 => exact HC1.out); rintro e w20 ⟨v221, rfl, ho0, hb⟩; have n0_ := Aside0.mk (Kd.R_elder' (by (with_reducible repeat (first | apply Kd.R_alloc | apply Kd.R_drewN | apply Kd.R_drew)); exact HO219.out) (Kd.R_base ho0) hb); have n1_ := Aside0.mk (Kd.R_lower (Kd.R_new' ho0 (Kd.R_lt (by (with_reducible repeat (first | apply Kd.R_alloc | apply Kd.R_drewN | apply Kd.R_drew)); exact HO219.out))) (below_size (by repeat (first | (with_reducible first | exact HB.out | apply below_alloc | apply pw_below_drewN | apply below_drew1) | exact HB.out)))); have n2_ := Aside0.mk (below_step (by repeat (first | (with_reducible first | exact HB.out | apply below_alloc | apply pw_below_drewN | apply below_drew1) | exact HB.out)) hb); clear HO219; clear HB; have HO219 := n0_; have HO222 := n1_; have HB := n2_; clear n0_ n1_ n2_; (try clear hb); (try clear hb2); (try clear hk); (try clear hi); (try clear ho0)) | ((with_reducible refine gate_dst (N := 47) rfl ?_); (try (refine gate_guard (by rfl) ?_; dsimp only)); refine Kd.R_lit (Kd.int .i64) _ 3 ?hg (N := 47) ?hd (xs := ([] : List Int)) (inner := []) (ok := fun _ => True) (okp := fun _ => True) ?hr ?hp (fun _ hk => hk) trivial (Below.refl _ _) (Nat.le_refl _) (by simp) ?_; (case hd => rfl); (case hg => rfl); (case hr => first | (go_simp; done) | (go_simp; rfl)); (case hp => exact (Reps.none _ _)); intro v224 w21 ho22 hb hg_ hnew_; clear hg_ hnew_; (first | rw [← Ny223.out] at ho22 | (simp only [Int.reduceToNat] at ho22; rw [← Ny223.out] at ho22)); have n0_ := Aside0.mk (Kd.R_elder' (by (with_reducible repeat (first | apply Kd.R_alloc | apply Kd.R_drewN | apply Kd.R_drew)); exact HO219.out) (Kd.R_base ho22) hb); have n1_ := Aside0.mk (Kd.R_elder' (by (with_reducible repeat (first | apply Kd.R_alloc | apply Kd.R_drewN | apply Kd.R_drew)); exact HO222.out) (Kd.R_base ho22) hb); have n2_ := Aside0.mk (Kd.R_lower (Kd.R_new' (Kd.R_new' ho22 (Kd.R_lt (by (with_reducible repeat (first | apply Kd.R_alloc | apply Kd.R_drewN | apply Kd.R_drew)); exact HO219.out))) (Kd.R_lt (by (with_reducible repeat (first | apply Kd.R_alloc | apply Kd.R_drewN | apply Kd.R_drew)); exact HO222.out))) (below_size (by repeat (first | (with_reducible first | exact HB.out | apply below_alloc | apply pw_below_drewN | apply below_drew1) | exact HB.out)))); have n3_ := Aside0.mk (below_step (by repeat (first | (with_reducible first | exact HB.out | apply below_alloc | apply pw_below_drewN | apply below_drew1) | exact HB.out)) hb); clear HO219; clear HO222; clear HB; have HO219 := n0_; have HO222 := n1_; have HO225 := n2_; have HB := n3_; clear n0_ n1_ n2_ n3_; clear hb ho22) | ((with_reducible refine gate_builtin (b := .append) (xs := #[.tmp 47, .tmp 48]) rfl ?_); (try (refine gate_guard (by rfl) ?_; dsimp only)); at_builtin; refine Kd.R_append_rows (Kd.int .i64) (w0 := w) w.heap.size rfl (.tmp 47) (.tmp 48) 23 3 (.int .i64 0) 8 rfl Try.underlying23 info3 rfl (by decide) (by omega) v224 y223 l0 _ _ _ (fun k_ => some k_ ≠ (v218 : Value).ownBlock ∧ some k_ ≠ (v221 : Value).ownBlock) (fun _ => False) rfl rfl ?aO ?aR (fun _ _ h => h) (fun _ h => h.elim) ?aF ?aB ?aS ?aL ?_; (case aR => repeat (first | exact (Kd.C_below HR0.out HB.out) | (with_reducible refine Kd.C_alloc ?_ _) | (with_reducible refine Kd.C_drewN ?_ _) | (with_reducible refine Kd.C_drew ?_))); (case aB => exact (by repeat (first | (with_reducible first | exact HB.out | apply below_alloc | apply pw_below_drewN | apply below_drew1) | exact HB.out))); (case aF => exact (fun k_ hk => ⟨Kd.fresh' (Kd.R_lt (by (with_reducible repeat (first | apply Kd.R_alloc | apply Kd.R_drewN | apply Kd.R_drew)); exact HO219.out)) k_ hk, Kd.fresh' (Kd.R_lt (by (with_reducible repeat (first | apply Kd.R_alloc | apply Kd.R_drewN | apply Kd.R_drew)); exact HO222.out)) k_ hk⟩)); (case aO => exact (by (with_reducible repeat (first | apply Kd.R_alloc | apply Kd.R_drewN | apply Kd.R_drew)); exact Kd.R_mono HO225.out (fun _ hk => ⟨hk.1.2, hk.2⟩))); (case aS => exact (below_size (by repeat (first | (with_reducible first | exact HB.out | apply below_alloc | apply pw_below_drewN | apply below_drew1) | exact HB.out)))); (case aL => have := LMc15.out; omega); intro v227 w23 ho hb hg hat; rw [← Ny226.out] at ho; have n0_ := Aside0.mk (Kd.R_after (ok := (fun k_ => some k_ ≠ (v221 : Value).ownBlock)) (by (with_reducible repeat (first | apply Kd.R_alloc | apply Kd.R_drewN | apply Kd.R_drew)); exact Kd.R_mono HO219.out (fun _ hk => ⟨hk.1.2, hk.2⟩)) hg hat); have n1_ := Aside0.mk (Kd.R_after (ok := (fun k_ => some k_ ≠ (v218 : Value).ownBlock)) (by (with_reducible repeat (first | apply Kd.R_alloc | apply Kd.R_drewN | apply Kd.R_drew)); exact Kd.R_mono HO222.out (fun _ hk => ⟨hk.1.2, hk.2⟩)) hg hat); have n2_ := Aside0.mk (hb); have n3_ := Aside0.mk (ho); clear HO219; clear HO222; clear HB; clear HO225; have HO219 := n0_; have HO222 := n1_; have HB := n2_; have HO228 := n3_; clear n0_ n1_ n2_ n3_; clear ho hb hg hat) | ((with_reducible refine gate_builtin (b := .append) (xs := #[.tmp 49, .tmp 50]) rfl ?_); (try (refine gate_guard (by rfl) ?_; dsimp only)); at_builtin; refine Kd.R_append_rows (Kd.int .i64) (w0 := w) w.heap.size rfl (.tmp 49) (.tmp 50) 23 3 (.int .i64 0) 8 rfl Try.underlying23 info3 rfl (by decide) (by omega) v227 y226 l1 _ _ _ (fun k_ => some k_ ≠ (v218 : Value).ownBlock ∧ some k_ ≠ (v221 : Value).ownBlock) (fun _ => False) rfl rfl ?aO ?aR (fun _ _ h => h) (fun _ h => h.elim) ?aF ?aB ?aS ?aL ?_; (case aR => repeat (first | exact (Kd.C_below HR1.out HB.out) | (with_reducible refine Kd.C_alloc ?_ _) | (with_reducible refine Kd.C_drewN ?_ _) | (with_reducible refine Kd.C_drew ?_))); (case aB => exact (by repeat (first | (with_reducible first | exact HB.out | apply below_alloc | apply pw_below_drewN | apply below_drew1) | exact HB.out))); (case aF => exact (fun k_ hk => ⟨Kd.fresh' (Kd.R_lt (by (with_reducible repeat (first | apply Kd.R_alloc | apply Kd.R_drewN | apply Kd.R_drew)); exact HO219.out)) k_ hk, Kd.fresh' (Kd.R_lt (by (with_reducible repeat (first | apply Kd.R_alloc | apply Kd.R_drewN | apply Kd.R_drew)); exact HO222.out)) k_ hk⟩)); (case aO => exact (by (with_reducible repeat (first | apply Kd.R_alloc | apply Kd.R_drewN | apply Kd.R_drew)); exact HO228.out)); (case aS => exact (below_size (by repeat (first | (with_reducible first | exact HB.out | apply below_alloc | apply pw_below_drewN | apply below_drew1) | exact HB.out)))); (case aL => have := LMc16.out; omega); intro v230 w24 ho hb hg hat; rw [← Ny229.out] at ho; have n0_ := Aside0.mk (Kd.R_after (ok := (fun k_ => some k_ ≠ (v221 : Value).ownBlock)) (by (with_reducible repeat (first | apply Kd.R_alloc | apply Kd.R_drewN | apply Kd.R_drew)); exact HO219.out) hg hat); have n1_ := Aside0.mk (Kd.R_after (ok := (fun k_ => some k_ ≠ (v218 : Value).ownBlock)) (by (with_reducible repeat (first | apply Kd.R_alloc | apply Kd.R_drewN | apply Kd.R_drew)); exact HO222.out) hg hat); have n2_ := Aside0.mk (hb); have n3_ := Aside0.mk (ho); clear HO219; clear HO222; clear HB; clear HO228; have HO219 := n0_; have HO222 := n1_; have HB := n2_; have HO231 := n3_; clear n0_ n1_ n2_ n3_; clear ho hb hg hat; obtain ⟨Ao25, co25, eo25⟩ := Kd.R_slice HO231.out; subst eo25) | (go_at_call 13; (with_reducible refine (picks_Steps.calls kj5 _ _ y229 a2 t232 _ ?side1 ?side2 A17.out).mono ?_); (case side1 => repeat (first | exact (Kd.R_reads' HO231.out).2.2 | (with_reducible refine Kd.C_alloc ?_ _) | (with_reducible refine Kd.C_drewN ?_ _) | (with_reducible refine Kd.C_drew ?_))); (case side2 => exact (Kd.R_reads' HO231.out).2.1); rintro e w26 ⟨v233, rfl, ho0, hb⟩; have n0_ := Aside0.mk (Kd.R_elder' (by (with_reducible repeat (first | apply Kd.R_alloc | apply Kd.R_drewN | apply Kd.R_drew)); exact HO219.out) (Kd.R_base ho0) hb); have n1_ := Aside0.mk (Kd.R_elder' (by (with_reducible repeat (first | apply Kd.R_alloc | apply Kd.R_drewN | apply Kd.R_drew)); exact HO222.out) (Kd.R_base ho0) hb); have n2_ := Aside0.mk (Kd.R_elder' (by (with_reducible repeat (first | apply Kd.R_alloc | apply Kd.R_drewN | apply Kd.R_drew)); exact HO231.out) (Kd.R_base ho0) hb); have n3_ := Aside0.mk (Kd.R_lower (Kd.R_new' (Kd.R_new' (Kd.R_new' ho0 (Kd.R_lt (by (with_reducible repeat (first | apply Kd.R_alloc | apply Kd.R_drewN | apply Kd.R_drew)); exact HO219.out))) (Kd.R_lt (by (with_reducible repeat (first | apply Kd.R_alloc | apply Kd.R_drewN | apply Kd.R_drew)); exact HO222.out))) (Kd.R_lt (by (with_reducible repeat (first | apply Kd.R_alloc | apply Kd.R_drewN | apply Kd.R_drew)); exact HO231.out))) (below_size (by repeat (first | (with_reducible first | exact HB.out | apply below_alloc | apply pw_below_drewN | apply below_drew1) | exact HB.out)))); have n4_ := Aside0.mk (below_step (by repeat (first | (with_reducible first | exact HB.out | apply below_alloc | apply pw_below_drewN | apply below_drew1) | exact HB.out)) hb); clear HO219; clear HO222; clear HO231; clear HB; have HO219 := n0_; have HO222 := n1_; have HO231 := n2_; have HO234 := n3_; have HB := n4_; clear n0_ n1_ n2_ n3_ n4_; (try clear hb); (try clear hb2); (try clear hk); (try clear hi); (try clear ho0))))
            (try simp only [Act.put, List.setIfInBounds_toArray, List.set_cons_zero, List.set_cons_succ])
            go_cut [69] (fun v69 wc => ∃ (kq : Nat) (x69_17 : Bool), v69 = .bool x69_17 ∧ Aside0 (pantrylaw20_PicksSteps.j1 kq l0 a2 l3 t216 t217 t220 t232 x69_17 = some r) ∧ Aside0 (kq ≤ kj5) ∧ Aside0 (Kd.R (Kd.int .i64) 3 wc w.heap.size (fun k_ => some k_ ≠ (v221 : Value).ownBlock ∧ some k_ ≠ (v233 : Value).ownBlock) v218 t217) ∧ Aside0 (Kd.R (Kd.int .i64) 3 wc w.heap.size (fun k_ => some k_ ≠ (v218 : Value).ownBlock ∧ some k_ ≠ (v233 : Value).ownBlock) v221 t220) ∧ Aside0 (Kd.R (Kd.int .i64) 3 wc w.heap.size (fun k_ => some k_ ≠ (v218 : Value).ownBlock ∧ some k_ ≠ (v221 : Value).ownBlock) v233 t232) ∧ Aside0 (Below w.heap.size w wc))
            case first =>
              have H := HC18.out
              clear HC18
              by_cases c27 : (t217.length : Int) = a2
              · rw [if_pos c27] at H
                have c27b0 : ((t217.length : Int) == a2) = true := beq_iff_eq.mpr c27
                have c27b1 : ((t217.length : Int) != a2) = false := bne_eq_false_iff_eq.mpr c27
                clear c27
                (first | rw [c27b0] | (simp only [i64_w, i32_w]; rw [c27b0]) | skip)
                by_cases c28 : (t220.length : Int) = a2
                · rw [if_pos c28] at H
                  have c28b0 : ((t220.length : Int) == a2) = true := beq_iff_eq.mpr c28
                  have c28b1 : ((t220.length : Int) != a2) = false := bne_eq_false_iff_eq.mpr c28
                  clear c28
                  have H' := Aside0.mk H
                  clear H
                  obtain ⟨Ao29, co29, eo29⟩ := Kd.R_slice HO219.out
                  subst eo29
                  obtain ⟨Ao30, co30, eo30⟩ := Kd.R_slice HO222.out
                  subst eo30
                  obtain ⟨Ao31, co31, eo31⟩ := Kd.R_slice HO234.out
                  subst eo31
                  go_wp2
                  repeat (go_quiet (fail); try go_wp2)
                  go_meet
                  case rel => exact ⟨_, (((t232.length : Int) != a2)), (by first | rfl | (simp; done) | (simp [*]; done)), H', ⟨by have := HJ5.out; first | omega | exact Nat.le_refl _⟩, ⟨by (with_reducible repeat (first | apply Kd.R_alloc | apply Kd.R_drewN | apply Kd.R_drew)); exact Kd.R_mono HO219.out (fun _ hk => ⟨hk.1.1, hk.2⟩)⟩, ⟨by (with_reducible repeat (first | apply Kd.R_alloc | apply Kd.R_drewN | apply Kd.R_drew)); exact Kd.R_mono HO222.out (fun _ hk => ⟨hk.1.1, hk.2⟩)⟩, ⟨by (with_reducible repeat (first | apply Kd.R_alloc | apply Kd.R_drewN | apply Kd.R_drew)); exact Kd.R_mono HO234.out (fun _ hk => ⟨hk.1.1.2, hk.1.2⟩)⟩, ⟨by repeat (first | (with_reducible first | exact HB.out | apply below_alloc | apply pw_below_drewN | apply below_drew1) | exact HB.out)⟩⟩
                · rw [if_neg c28] at H
                  have c28b0 : ((t220.length : Int) == a2) = false := beq_eq_false_iff_ne.mpr c28
                  have c28b1 : ((t220.length : Int) != a2) = true := bne_iff_ne.mpr c28
                  have H' := Aside0.mk H
                  clear H
                  obtain ⟨Ao32, co32, eo32⟩ := Kd.R_slice HO219.out
                  subst eo32
                  obtain ⟨Ao33, co33, eo33⟩ := Kd.R_slice HO222.out
                  subst eo33
                  go_wp2
                  repeat (go_quiet (fail); try go_wp2)
                  go_meet
                  case rel => exact ⟨_, (true), (by first | rfl | (simp; done) | (simp [*]; done)), H', ⟨by have := HJ5.out; first | omega | exact Nat.le_refl _⟩, ⟨by (with_reducible repeat (first | apply Kd.R_alloc | apply Kd.R_drewN | apply Kd.R_drew)); exact Kd.R_mono HO219.out (fun _ hk => ⟨hk.1.1, hk.2⟩)⟩, ⟨by (with_reducible repeat (first | apply Kd.R_alloc | apply Kd.R_drewN | apply Kd.R_drew)); exact Kd.R_mono HO222.out (fun _ hk => ⟨hk.1.1, hk.2⟩)⟩, ⟨by (with_reducible repeat (first | apply Kd.R_alloc | apply Kd.R_drewN | apply Kd.R_drew)); exact Kd.R_mono HO234.out (fun _ hk => ⟨hk.1.1.2, hk.1.2⟩)⟩, ⟨by repeat (first | (with_reducible first | exact HB.out | apply below_alloc | apply pw_below_drewN | apply below_drew1) | exact HB.out)⟩⟩
              · rw [if_neg c27] at H
                have c27b0 : ((t217.length : Int) == a2) = false := beq_eq_false_iff_ne.mpr c27
                have c27b1 : ((t217.length : Int) != a2) = true := bne_iff_ne.mpr c27
                (first | rw [c27b0] | (simp only [i64_w, i32_w]; rw [c27b0]) | skip)
                have H' := Aside0.mk H
                clear H
                obtain ⟨Ao34, co34, eo34⟩ := Kd.R_slice HO219.out
                subst eo34
                go_wp2
                repeat (go_quiet (fail); try go_wp2)
                go_meet
                case rel => exact ⟨_, (true), (by first | rfl | (simp; done) | (simp [*]; done)), H', ⟨by have := HJ5.out; first | omega | exact Nat.le_refl _⟩, ⟨by (with_reducible repeat (first | apply Kd.R_alloc | apply Kd.R_drewN | apply Kd.R_drew)); exact Kd.R_mono HO219.out (fun _ hk => ⟨hk.1.1, hk.2⟩)⟩, ⟨by (with_reducible repeat (first | apply Kd.R_alloc | apply Kd.R_drewN | apply Kd.R_drew)); exact Kd.R_mono HO222.out (fun _ hk => ⟨hk.1.1, hk.2⟩)⟩, ⟨by (with_reducible repeat (first | apply Kd.R_alloc | apply Kd.R_drewN | apply Kd.R_drew)); exact Kd.R_mono HO234.out (fun _ hk => ⟨hk.1.1.2, hk.1.2⟩)⟩, ⟨by repeat (first | (with_reducible first | exact HB.out | apply below_alloc | apply pw_below_drewN | apply below_drew1) | exact HB.out)⟩⟩
            case rest =>
              clear HC18
              try clear c1
              try clear c2
              try clear p2
              try clear c3
              try clear c7
              try clear c8
              try clear c8b0
              try clear c8b1
              try clear c9
              try clear c9b0
              try clear c9b1
              try clear c10
              try clear c10b0
              try clear c11
              try clear c11b0
              try clear c12
              try clear c15
              try clear c16
              try clear c27
              try clear c27b0
              try clear c27b1
              try clear c28
              try clear c28b0
              try clear c28b1
              try clear p2
              obtain ⟨kq, x69_17, rfl, HA, HJ17, HO_10, HO_11, HO_12, HB⟩ := hcut
              cases kq with
              | zero => exact absurd HA.out (by simp [pantrylaw20_PicksSteps.j1])
              | succ kj17 =>
                have H := HA.out
                clear HA
                simp only [pantrylaw20_PicksSteps.j1] at H
                by_cases c35 : x69_17 = true
                · subst c35
                  have H1 : (some false) = some r := by rw [if_pos rfl] at H; exact H
                  clear H
                  have H := H1
                  clear H1
                  obtain rfl := Option.some.inj H
                  go_wp2
                  repeat (go_quiet (fail); try go_wp2)
                  go_ret
                  exact ⟨by first | rfl | (simp [errW_none, errW_some] <;> rfl) | (simp [*, errW_none, errW_some] <;> rfl), by repeat (first | (with_reducible first | exact HB.out | apply below_alloc | apply pw_below_drewN | apply below_drew1) | exact HB.out)⟩
                · replace c35 := Bool.eq_false_iff.mpr c35
                  subst c35
                  have H1 : (pantrylaw20_PicksSteps.l0 kj17 l0 a2 l3 t216 t217 t220 t232 0) = some r := by rw [if_neg (show ¬ (false = true) by decide)] at H; exact H
                  clear H
                  have H := H1
                  clear H1
                  have H' := Aside0.mk H
                  clear H
                  go_wp2
                  repeat (go_quiet (fail); try go_wp2)
                  go_loopg [13] kj17 (fun kq v13 w' => ∃ (x13_3 : Int), v13 = .int .i64 x13_3 ∧ Aside0 (pantrylaw20_PicksSteps.l0 kq l0 a2 l3 t216 t217 t220 t232 x13_3 = some r) ∧ Aside0 (kq ≤ kj17) ∧ Aside0 (Kd.R (Kd.int .i64) 3 w' w.heap.size (fun k_ => some k_ ≠ (v221 : Value).ownBlock ∧ some k_ ≠ (v233 : Value).ownBlock) v218 t217) ∧ Aside0 (Kd.R (Kd.int .i64) 3 w' w.heap.size (fun k_ => some k_ ≠ (v218 : Value).ownBlock ∧ some k_ ≠ (v233 : Value).ownBlock) v221 t220) ∧ Aside0 (Kd.R (Kd.int .i64) 3 w' w.heap.size (fun k_ => some k_ ≠ (v218 : Value).ownBlock ∧ some k_ ≠ (v221 : Value).ownBlock) v233 t232) ∧ Aside0 (Below w.heap.size w w'))
                  case atStart => exact ⟨(0), (by first | rfl | (simp; done) | (simp [*]; done)), H', ⟨Nat.le_refl _⟩, ⟨by (with_reducible repeat (first | apply Kd.R_alloc | apply Kd.R_drewN | apply Kd.R_drew)); exact HO_10.out⟩, ⟨by (with_reducible repeat (first | apply Kd.R_alloc | apply Kd.R_drewN | apply Kd.R_drew)); exact HO_11.out⟩, ⟨by (with_reducible repeat (first | apply Kd.R_alloc | apply Kd.R_drewN | apply Kd.R_drew)); exact HO_12.out⟩, ⟨by repeat (first | (with_reducible first | exact HB.out | apply below_alloc | apply pw_below_drewN | apply below_drew1) | exact HB.out)⟩⟩
                  case round =>
                    clear H'
                    try clear c1
                    try clear c2
                    try clear p2
                    try clear c3
                    try clear c7
                    try clear c8
                    try clear c8b0
                    try clear c8b1
                    try clear c9
                    try clear c9b0
                    try clear c9b1
                    try clear c10
                    try clear c10b0
                    try clear c11
                    try clear c11b0
                    try clear c12
                    try clear c15
                    try clear c16
                    try clear c27
                    try clear c27b0
                    try clear c27b1
                    try clear c28
                    try clear c28b0
                    try clear c28b1
                    try clear c35
                    try clear p2
                    obtain ⟨x13_3, rfl, HA, HK3, HO_10, HO_11, HO_12, HB⟩ := hrel
                    cases gk with
                    | zero => exact absurd HA.out (by simp [pantrylaw20_PicksSteps.l0])
                    | succ k3 =>
                      have H := HA.out
                      clear HA
                      simp only [pantrylaw20_PicksSteps.l0] at H
                      by_cases c36 : x13_3 < a2
                      · rw [if_pos c36] at H
                        have c36b0 : decide (x13_3 < a2) = true := decide_eq_true c36
                        clear c36
                        by_cases c37 : 0 ≤ x13_3
                        · rw [if_pos c37] at H
                          have c37b0 : decide (0 ≤ x13_3) = true := decide_eq_true c37
                          clear c37
                          by_cases c38 : x13_3 < (t232.length : Int)
                          · rw [if_pos c38] at H
                            have c38b0 : decide (x13_3 < (t232.length : Int)) = true := decide_eq_true c38
                            clear c38
                            by_cases c39 : x13_3 < (t217.length : Int)
                            · rw [if_pos c39] at H
                              have c39b0 : decide (x13_3 < (t217.length : Int)) = true := decide_eq_true c39
                              clear c39
                              by_cases c40 : x13_3 < (t220.length : Int)
                              · rw [if_pos c40] at H
                                have c40b0 : decide (x13_3 < (t220.length : Int)) = true := decide_eq_true c40
                                clear c40
                                by_cases c41 : (rd t232 x13_3) = (wrap64 ((rd t217 x13_3) + (rd t220 x13_3)))
                                · rw [if_pos c41] at H
                                  have c41b0 : ((rd t232 x13_3) == (wrap64 ((rd t217 x13_3) + (rd t220 x13_3)))) = true := beq_iff_eq.mpr c41
                                  have c41b1 : ((rd t232 x13_3) != (wrap64 ((rd t217 x13_3) + (rd t220 x13_3)))) = false := bne_eq_false_iff_eq.mpr c41
                                  clear c41
                                  have H' := Aside0.mk H
                                  clear H
                                  obtain ⟨Ao42, co42, eo42⟩ := Kd.R_slice HO_12.out
                                  subst eo42
                                  have p235 : 0 ≤ (x13_3 : Int) := of_decide_eq_true (by first | (with_reducible assumption) | assumption)
                                  have q235 : x13_3 < (t232.length : Int) := of_decide_eq_true (by first | (with_reducible assumption) | assumption)
                                  obtain ⟨ad235, e235, hx235_0⟩ := Kd.at_int (Kd.R_reads' HO_12.out).2.2 x13_3 p235 q235
                                  cases e235
                                  replace p235 := eq_true p235
                                  replace q235 := eq_true q235
                                  obtain ⟨Ao43, co43, eo43⟩ := Kd.R_slice HO_10.out
                                  subst eo43
                                  have p236 : 0 ≤ (x13_3 : Int) := of_decide_eq_true (by first | (with_reducible assumption) | assumption)
                                  have q236 : x13_3 < (t217.length : Int) := of_decide_eq_true (by first | (with_reducible assumption) | assumption)
                                  obtain ⟨ad236, e236, hx236_0⟩ := Kd.at_int (Kd.R_reads' HO_10.out).2.2 x13_3 p236 q236
                                  cases e236
                                  replace p236 := eq_true p236
                                  replace q236 := eq_true q236
                                  obtain ⟨Ao44, co44, eo44⟩ := Kd.R_slice HO_11.out
                                  subst eo44
                                  have p237 : 0 ≤ (x13_3 : Int) := of_decide_eq_true (by first | (with_reducible assumption) | assumption)
                                  have q237 : x13_3 < (t220.length : Int) := of_decide_eq_true (by first | (with_reducible assumption) | assumption)
                                  obtain ⟨ad237, e237, hx237_0⟩ := Kd.at_int (Kd.R_reads' HO_11.out).2.2 x13_3 p237 q237
                                  cases e237
                                  replace p237 := eq_true p237
                                  replace q237 := eq_true q237
                                  go_wp2
                                  repeat (go_quiet (fail); try go_wp2)
                                  go_roundg k3
                                  case measure => have := HJ5.out; have := HJ17.out; have := HK3.out; omega
                                  case rel => exact ⟨(wrap64 (x13_3 + 1)), (by first | rfl | (simp; done) | (simp [*]; done)), H', ⟨by have := HJ5.out; have := HJ17.out; have := HK3.out; omega⟩, ⟨by (with_reducible repeat (first | apply Kd.R_alloc | apply Kd.R_drewN | apply Kd.R_drew)); exact HO_10.out⟩, ⟨by (with_reducible repeat (first | apply Kd.R_alloc | apply Kd.R_drewN | apply Kd.R_drew)); exact HO_11.out⟩, ⟨by (with_reducible repeat (first | apply Kd.R_alloc | apply Kd.R_drewN | apply Kd.R_drew)); exact HO_12.out⟩, ⟨by repeat (first | (with_reducible first | exact HB.out | apply below_alloc | apply pw_below_drewN | apply below_drew1) | exact HB.out)⟩⟩
                                · rw [if_neg c41] at H
                                  have c41b0 : ((rd t232 x13_3) == (wrap64 ((rd t217 x13_3) + (rd t220 x13_3)))) = false := beq_eq_false_iff_ne.mpr c41
                                  have c41b1 : ((rd t232 x13_3) != (wrap64 ((rd t217 x13_3) + (rd t220 x13_3)))) = true := bne_iff_ne.mpr c41
                                  obtain rfl := Option.some.inj H
                                  obtain ⟨Ao45, co45, eo45⟩ := Kd.R_slice HO_12.out
                                  subst eo45
                                  have p235 : 0 ≤ (x13_3 : Int) := of_decide_eq_true (by first | (with_reducible assumption) | assumption)
                                  have q235 : x13_3 < (t232.length : Int) := of_decide_eq_true (by first | (with_reducible assumption) | assumption)
                                  obtain ⟨ad235, e235, hx235_0⟩ := Kd.at_int (Kd.R_reads' HO_12.out).2.2 x13_3 p235 q235
                                  cases e235
                                  replace p235 := eq_true p235
                                  replace q235 := eq_true q235
                                  obtain ⟨Ao46, co46, eo46⟩ := Kd.R_slice HO_10.out
                                  subst eo46
                                  have p236 : 0 ≤ (x13_3 : Int) := of_decide_eq_true (by first | (with_reducible assumption) | assumption)
                                  have q236 : x13_3 < (t217.length : Int) := of_decide_eq_true (by first | (with_reducible assumption) | assumption)
                                  obtain ⟨ad236, e236, hx236_0⟩ := Kd.at_int (Kd.R_reads' HO_10.out).2.2 x13_3 p236 q236
                                  cases e236
                                  replace p236 := eq_true p236
                                  replace q236 := eq_true q236
                                  obtain ⟨Ao47, co47, eo47⟩ := Kd.R_slice HO_11.out
                                  subst eo47
                                  have p237 : 0 ≤ (x13_3 : Int) := of_decide_eq_true (by first | (with_reducible assumption) | assumption)
                                  have q237 : x13_3 < (t220.length : Int) := of_decide_eq_true (by first | (with_reducible assumption) | assumption)
                                  obtain ⟨ad237, e237, hx237_0⟩ := Kd.at_int (Kd.R_reads' HO_11.out).2.2 x13_3 p237 q237
                                  cases e237
                                  replace p237 := eq_true p237
                                  replace q237 := eq_true q237
                                  go_wp2
                                  repeat (go_quiet (fail); try go_wp2)
                                  go_ret
                                  exact ⟨by first | rfl | (simp [errW_none, errW_some] <;> rfl) | (simp [*, errW_none, errW_some] <;> rfl), by repeat (first | (with_reducible first | exact HB.out | apply below_alloc | apply pw_below_drewN | apply below_drew1) | exact HB.out)⟩
                              · rw [if_neg c40] at H
                                exact absurd H (by simp)
                            · rw [if_neg c39] at H
                              exact absurd H (by simp)
                          · rw [if_neg c38] at H
                            exact absurd H (by simp)
                        · rw [if_neg c37] at H
                          exact absurd H (by simp)
                      · rw [if_neg c36] at H
                        have c36b0 : decide (x13_3 < a2) = false := decide_eq_false c36
                        clear c36
                        have H' := Aside0.mk H
                        clear H
                        go_wp2
                        repeat (go_quiet (fail); try go_wp2)
                        go_loopg [14, 15] k3 (fun kq v14 v15 w' => ∃ (x14_4 : Bool) (x15_4 : Int), v14 = .bool x14_4 ∧ v15 = .int .i64 x15_4 ∧ Aside0 (pantrylaw20_PicksSteps.l1 kq l0 l3 t216 x14_4 x15_4 = some r) ∧ Aside0 (kq ≤ k3) ∧ Aside0 (Below w.heap.size w w'))
                        case atStart => exact ⟨(false), (0), (by first | rfl | (simp; done) | (simp [*]; done)), (by first | rfl | (simp; done) | (simp [*]; done)), H', ⟨Nat.le_refl _⟩, ⟨by repeat (first | (with_reducible first | exact HB.out | apply below_alloc | apply pw_below_drewN | apply below_drew1) | exact HB.out)⟩⟩
                        case round =>
                          clear H'
                          try clear c1
                          try clear c2
                          try clear p2
                          try clear q2
                          try clear hx2
                          try clear c3
                          try clear c4
                          try clear p6
                          try clear c7
                          try clear c8
                          try clear c8b0
                          try clear c8b1
                          try clear c9
                          try clear c9b0
                          try clear c9b1
                          try clear c10
                          try clear c10b0
                          try clear c11
                          try clear c11b0
                          try clear c12
                          try clear c15
                          try clear c16
                          try clear p23
                          try clear q23
                          try clear hx23
                          try clear c27
                          try clear c27b0
                          try clear c27b1
                          try clear c28
                          try clear c28b0
                          try clear c28b1
                          try clear c35
                          try clear c36
                          try clear c36b0
                          try clear c37
                          try clear c37b0
                          try clear c38
                          try clear c38b0
                          try clear c39
                          try clear c39b0
                          try clear c40
                          try clear c40b0
                          try clear c41
                          try clear c41b0
                          try clear c41b1
                          try clear hx235_0
                          try clear hx236_0
                          try clear hx237_0
                          try clear p2
                          try clear p235
                          try clear p236
                          try clear p237
                          try clear q235
                          try clear q236
                          try clear q237
                          obtain ⟨x14_4, x15_4, rfl, rfl, HA, HK4, HB⟩ := hrel
                          cases gk with
                          | zero => exact absurd HA.out (by simp [pantrylaw20_PicksSteps.l1])
                          | succ k4 =>
                            have H := HA.out
                            clear HA
                            simp only [pantrylaw20_PicksSteps.l1] at H
                            by_cases c48 : x15_4 < (l3.length : Int)
                            · rw [if_pos c48] at H
                              have c48b0 : decide (x15_4 < (l3.length : Int)) = true := decide_eq_true c48
                              clear c48
                              by_cases c49 : x14_4 = true
                              · subst c49
                                have H1 : (if 0 ≤ x15_4 then (if rdOf false l3 x15_4 = true then ((picks_Next.f k4 x15_4 l3).bind fun t239 => (if t239 = x15_4 then (pantrylaw20_PicksSteps.l1 k4 l0 l3 t216 true (wrap64 (x15_4 + 1))) else (some false))) else (pantrylaw20_PicksSteps.l1 k4 l0 l3 t216 true (wrap64 (x15_4 + 1)))) else (none)) = some r := by rw [if_pos rfl] at H; exact H
                                clear H
                                have H := H1
                                clear H1
                                by_cases c50 : 0 ≤ x15_4
                                · rw [if_pos c50] at H
                                  have c50b0 : decide (0 ≤ x15_4) = true := decide_eq_true c50
                                  clear c50
                                  obtain ⟨bq51, hbq51⟩ : ∃ b_ : Bool, b_ = (rdOf false l3 x15_4) := ⟨_, rfl⟩
                                  replace H : (if bq51 = true then ((picks_Next.f k4 x15_4 l3).bind fun t239 => (if t239 = x15_4 then (pantrylaw20_PicksSteps.l1 k4 l0 l3 t216 true (wrap64 (x15_4 + 1))) else (some false))) else (pantrylaw20_PicksSteps.l1 k4 l0 l3 t216 true (wrap64 (x15_4 + 1)))) = some r := by rw [← hbq51] at H; exact H
                                  have Nbq51 := Aside0.mk hbq51
                                  clear hbq51
                                  by_cases c52 : bq51 = true
                                  · subst c52
                                    have H1 : ((picks_Next.f k4 x15_4 l3).bind fun t239 => (if t239 = x15_4 then (pantrylaw20_PicksSteps.l1 k4 l0 l3 t216 true (wrap64 (x15_4 + 1))) else (some false))) = some r := by rw [if_pos rfl] at H; exact H
                                    clear H
                                    have H := H1
                                    clear H1
                                    replace H := Option.bind_eq_some_iff.mp H
                                    obtain ⟨t239, A530, H⟩ := H
                                    replace H : (if t239 = x15_4 then (pantrylaw20_PicksSteps.l1 k4 l0 l3 t216 true (wrap64 (x15_4 + 1))) else (some false)) = some r := H
                                    have A53 := Aside0.mk A530
                                    clear A530
                                    by_cases c54 : t239 = x15_4
                                    · rw [if_pos c54] at H
                                      have c54b0 : (t239 == x15_4) = true := beq_iff_eq.mpr c54
                                      have c54b1 : (t239 != x15_4) = false := bne_eq_false_iff_eq.mpr c54
                                      clear c54
                                      have H' := Aside0.mk H
                                      clear H
                                      have p238 : 0 ≤ (x15_4 : Int) := of_decide_eq_true (by first | (with_reducible assumption) | assumption)
                                      have q238 : x15_4 < (l3.length : Int) := of_decide_eq_true (by first | (with_reducible assumption) | assumption)
                                      obtain ⟨ad238, e238, hx238_0⟩ := Kd.at_bool HR3.out x15_4 p238 q238
                                      (try rw [← Nbq51.out] at hx238_0)
                                      cases e238
                                      replace hx238_0 := (HB.out.cell (World.block_lt_of_cell? w _ hx238_0)).trans hx238_0
                                      replace p238 := eq_true p238
                                      replace q238 := eq_true q238
                                      go_wp2_with (first | (go_at_call 10; (with_reducible refine (picks_Next.calls k4 x15_4 _ _ l3 t239 _ ?side1 ?side2 A53.out).mono ?_); (case side1 => repeat (first | exact (Kd.C_below HR3.out HB.out) | (with_reducible refine Kd.C_alloc ?_ _) | (with_reducible refine Kd.C_drewN ?_ _) | (with_reducible refine Kd.C_drew ?_))); (case side2 => exact HC3.out); rintro e w' ⟨rfl, ⟨nd, rfl⟩⟩; (try first | exact ⟨rfl, _, World.drewN_drewN _ _ _⟩ | exact ⟨rfl, _, Eq.trans (World.drewN_drewN _ _ _) (congrArg (World.drewN _) (Nat.add_assoc _ _ _))⟩)))
                                      repeat (go_quiet (first | (go_at_call 10; (with_reducible refine (picks_Next.calls k4 x15_4 _ _ l3 t239 _ ?side1 ?side2 A53.out).mono ?_); (case side1 => repeat (first | exact (Kd.C_below HR3.out HB.out) | (with_reducible refine Kd.C_alloc ?_ _) | (with_reducible refine Kd.C_drewN ?_ _) | (with_reducible refine Kd.C_drew ?_))); (case side2 => exact HC3.out); rintro e w' ⟨rfl, ⟨nd, rfl⟩⟩; (try first | exact ⟨rfl, _, World.drewN_drewN _ _ _⟩ | exact ⟨rfl, _, Eq.trans (World.drewN_drewN _ _ _) (congrArg (World.drewN _) (Nat.add_assoc _ _ _))⟩))); try go_wp2_with (first | (go_at_call 10; (with_reducible refine (picks_Next.calls k4 x15_4 _ _ l3 t239 _ ?side1 ?side2 A53.out).mono ?_); (case side1 => repeat (first | exact (Kd.C_below HR3.out HB.out) | (with_reducible refine Kd.C_alloc ?_ _) | (with_reducible refine Kd.C_drewN ?_ _) | (with_reducible refine Kd.C_drew ?_))); (case side2 => exact HC3.out); rintro e w' ⟨rfl, ⟨nd, rfl⟩⟩; (try first | exact ⟨rfl, _, World.drewN_drewN _ _ _⟩ | exact ⟨rfl, _, Eq.trans (World.drewN_drewN _ _ _) (congrArg (World.drewN _) (Nat.add_assoc _ _ _))⟩))))
                                      go_roundg k4
                                      case measure => have := HJ5.out; have := HJ17.out; have := HK3.out; have := HK4.out; omega
                                      case rel => exact ⟨(true), (wrap64 (x15_4 + 1)), (by first | rfl | (simp; done) | (simp [*]; done)), (by first | rfl | (simp; done) | (simp [*]; done)), H', ⟨by have := HJ5.out; have := HJ17.out; have := HK3.out; have := HK4.out; omega⟩, ⟨by repeat (first | (with_reducible first | exact HB.out | apply below_alloc | apply pw_below_drewN | apply below_drew1) | exact HB.out)⟩⟩
                                    · rw [if_neg c54] at H
                                      have c54b0 : (t239 == x15_4) = false := beq_eq_false_iff_ne.mpr c54
                                      have c54b1 : (t239 != x15_4) = true := bne_iff_ne.mpr c54
                                      obtain rfl := Option.some.inj H
                                      have p238 : 0 ≤ (x15_4 : Int) := of_decide_eq_true (by first | (with_reducible assumption) | assumption)
                                      have q238 : x15_4 < (l3.length : Int) := of_decide_eq_true (by first | (with_reducible assumption) | assumption)
                                      obtain ⟨ad238, e238, hx238_0⟩ := Kd.at_bool HR3.out x15_4 p238 q238
                                      (try rw [← Nbq51.out] at hx238_0)
                                      cases e238
                                      replace hx238_0 := (HB.out.cell (World.block_lt_of_cell? w _ hx238_0)).trans hx238_0
                                      replace p238 := eq_true p238
                                      replace q238 := eq_true q238
                                      go_wp2_with (first | (go_at_call 10; (with_reducible refine (picks_Next.calls k4 x15_4 _ _ l3 t239 _ ?side1 ?side2 A53.out).mono ?_); (case side1 => repeat (first | exact (Kd.C_below HR3.out HB.out) | (with_reducible refine Kd.C_alloc ?_ _) | (with_reducible refine Kd.C_drewN ?_ _) | (with_reducible refine Kd.C_drew ?_))); (case side2 => exact HC3.out); rintro e w' ⟨rfl, ⟨nd, rfl⟩⟩; (try first | exact ⟨rfl, _, World.drewN_drewN _ _ _⟩ | exact ⟨rfl, _, Eq.trans (World.drewN_drewN _ _ _) (congrArg (World.drewN _) (Nat.add_assoc _ _ _))⟩)))
                                      repeat (go_quiet (first | (go_at_call 10; (with_reducible refine (picks_Next.calls k4 x15_4 _ _ l3 t239 _ ?side1 ?side2 A53.out).mono ?_); (case side1 => repeat (first | exact (Kd.C_below HR3.out HB.out) | (with_reducible refine Kd.C_alloc ?_ _) | (with_reducible refine Kd.C_drewN ?_ _) | (with_reducible refine Kd.C_drew ?_))); (case side2 => exact HC3.out); rintro e w' ⟨rfl, ⟨nd, rfl⟩⟩; (try first | exact ⟨rfl, _, World.drewN_drewN _ _ _⟩ | exact ⟨rfl, _, Eq.trans (World.drewN_drewN _ _ _) (congrArg (World.drewN _) (Nat.add_assoc _ _ _))⟩))); try go_wp2_with (first | (go_at_call 10; (with_reducible refine (picks_Next.calls k4 x15_4 _ _ l3 t239 _ ?side1 ?side2 A53.out).mono ?_); (case side1 => repeat (first | exact (Kd.C_below HR3.out HB.out) | (with_reducible refine Kd.C_alloc ?_ _) | (with_reducible refine Kd.C_drewN ?_ _) | (with_reducible refine Kd.C_drew ?_))); (case side2 => exact HC3.out); rintro e w' ⟨rfl, ⟨nd, rfl⟩⟩; (try first | exact ⟨rfl, _, World.drewN_drewN _ _ _⟩ | exact ⟨rfl, _, Eq.trans (World.drewN_drewN _ _ _) (congrArg (World.drewN _) (Nat.add_assoc _ _ _))⟩))))
                                      go_ret
                                      exact ⟨by first | rfl | (simp [errW_none, errW_some] <;> rfl) | (simp [*, errW_none, errW_some] <;> rfl), by repeat (first | (with_reducible first | exact HB.out | apply below_alloc | apply pw_below_drewN | apply below_drew1) | exact HB.out)⟩
                                  · replace c52 := Bool.eq_false_iff.mpr c52
                                    subst c52
                                    have H1 : (pantrylaw20_PicksSteps.l1 k4 l0 l3 t216 true (wrap64 (x15_4 + 1))) = some r := by rw [if_neg (show ¬ (false = true) by decide)] at H; exact H
                                    clear H
                                    have H := H1
                                    clear H1
                                    have H' := Aside0.mk H
                                    clear H
                                    have p238 : 0 ≤ (x15_4 : Int) := of_decide_eq_true (by first | (with_reducible assumption) | assumption)
                                    have q238 : x15_4 < (l3.length : Int) := of_decide_eq_true (by first | (with_reducible assumption) | assumption)
                                    obtain ⟨ad238, e238, hx238_0⟩ := Kd.at_bool HR3.out x15_4 p238 q238
                                    (try rw [← Nbq51.out] at hx238_0)
                                    cases e238
                                    replace hx238_0 := (HB.out.cell (World.block_lt_of_cell? w _ hx238_0)).trans hx238_0
                                    replace p238 := eq_true p238
                                    replace q238 := eq_true q238
                                    go_wp2
                                    repeat (go_quiet (fail); try go_wp2)
                                    go_roundg k4
                                    case measure => have := HJ5.out; have := HJ17.out; have := HK3.out; have := HK4.out; omega
                                    case rel => exact ⟨(true), (wrap64 (x15_4 + 1)), (by first | rfl | (simp; done) | (simp [*]; done)), (by first | rfl | (simp; done) | (simp [*]; done)), H', ⟨by have := HJ5.out; have := HJ17.out; have := HK3.out; have := HK4.out; omega⟩, ⟨by repeat (first | (with_reducible first | exact HB.out | apply below_alloc | apply pw_below_drewN | apply below_drew1) | exact HB.out)⟩⟩
                                · rw [if_neg c50] at H
                                  exact absurd H (by simp)
                              · replace c49 := Bool.eq_false_iff.mpr c49
                                subst c49
                                have H1 : (if 0 ≤ x15_4 then (if rdOf false l3 x15_4 = true then ((picks_Next.f k4 x15_4 l3).bind fun t242 => (if t242 = x15_4 then (pantrylaw20_PicksSteps.l1 k4 l0 l3 t216 (rdOf false l3 x15_4) (wrap64 (x15_4 + 1))) else (some false))) else (pantrylaw20_PicksSteps.l1 k4 l0 l3 t216 (rdOf false l3 x15_4) (wrap64 (x15_4 + 1)))) else (none)) = some r := by rw [if_neg (show ¬ (false = true) by decide)] at H; exact H
                                clear H
                                have H := H1
                                clear H1
                                by_cases c55 : 0 ≤ x15_4
                                · rw [if_pos c55] at H
                                  have c55b0 : decide (0 ≤ x15_4) = true := decide_eq_true c55
                                  clear c55
                                  obtain ⟨bq56, hbq56⟩ : ∃ b_ : Bool, b_ = (rdOf false l3 x15_4) := ⟨_, rfl⟩
                                  replace H : (if bq56 = true then ((picks_Next.f k4 x15_4 l3).bind fun t242 => (if t242 = x15_4 then (pantrylaw20_PicksSteps.l1 k4 l0 l3 t216 bq56 (wrap64 (x15_4 + 1))) else (some false))) else (pantrylaw20_PicksSteps.l1 k4 l0 l3 t216 bq56 (wrap64 (x15_4 + 1)))) = some r := by rw [← hbq56] at H; exact H
                                  have Nbq56 := Aside0.mk hbq56
                                  clear hbq56
                                  by_cases c57 : bq56 = true
                                  · subst c57
                                    have H1 : ((picks_Next.f k4 x15_4 l3).bind fun t242 => (if t242 = x15_4 then (pantrylaw20_PicksSteps.l1 k4 l0 l3 t216 true (wrap64 (x15_4 + 1))) else (some false))) = some r := by rw [if_pos rfl] at H; exact H
                                    clear H
                                    have H := H1
                                    clear H1
                                    replace H := Option.bind_eq_some_iff.mp H
                                    obtain ⟨t242, A580, H⟩ := H
                                    replace H : (if t242 = x15_4 then (pantrylaw20_PicksSteps.l1 k4 l0 l3 t216 true (wrap64 (x15_4 + 1))) else (some false)) = some r := H
                                    have A58 := Aside0.mk A580
                                    clear A580
                                    by_cases c59 : t242 = x15_4
                                    · rw [if_pos c59] at H
                                      have c59b0 : (t242 == x15_4) = true := beq_iff_eq.mpr c59
                                      have c59b1 : (t242 != x15_4) = false := bne_eq_false_iff_eq.mpr c59
                                      clear c59
                                      have H' := Aside0.mk H
                                      clear H
                                      have p240 : 0 ≤ (x15_4 : Int) := of_decide_eq_true (by first | (with_reducible assumption) | assumption)
                                      have q240 : x15_4 < (l3.length : Int) := of_decide_eq_true (by first | (with_reducible assumption) | assumption)
                                      obtain ⟨ad240, e240, hx240_0⟩ := Kd.at_bool HR3.out x15_4 p240 q240
                                      (try rw [← Nbq56.out] at hx240_0)
                                      cases e240
                                      replace hx240_0 := (HB.out.cell (World.block_lt_of_cell? w _ hx240_0)).trans hx240_0
                                      replace p240 := eq_true p240
                                      replace q240 := eq_true q240
                                      have p241 : 0 ≤ (x15_4 : Int) := of_decide_eq_true (by first | (with_reducible assumption) | assumption)
                                      have q241 : x15_4 < (l3.length : Int) := of_decide_eq_true (by first | (with_reducible assumption) | assumption)
                                      obtain ⟨ad241, e241, hx241_0⟩ := Kd.at_bool HR3.out x15_4 p241 q241
                                      (try rw [← Nbq56.out] at hx241_0)
                                      obtain rfl : ad240 = ad241 := (by injection e241)
                                      replace hx241_0 := (HB.out.cell (World.block_lt_of_cell? w _ hx241_0)).trans hx241_0
                                      replace p241 := eq_true p241
                                      replace q241 := eq_true q241
                                      go_wp2_with (first | (go_at_call 10; (with_reducible refine (picks_Next.calls k4 x15_4 _ _ l3 t242 _ ?side1 ?side2 A58.out).mono ?_); (case side1 => repeat (first | exact (Kd.C_below HR3.out HB.out) | (with_reducible refine Kd.C_alloc ?_ _) | (with_reducible refine Kd.C_drewN ?_ _) | (with_reducible refine Kd.C_drew ?_))); (case side2 => exact HC3.out); rintro e w' ⟨rfl, ⟨nd, rfl⟩⟩; (try first | exact ⟨rfl, _, World.drewN_drewN _ _ _⟩ | exact ⟨rfl, _, Eq.trans (World.drewN_drewN _ _ _) (congrArg (World.drewN _) (Nat.add_assoc _ _ _))⟩)))
                                      repeat (go_quiet (first | (go_at_call 10; (with_reducible refine (picks_Next.calls k4 x15_4 _ _ l3 t242 _ ?side1 ?side2 A58.out).mono ?_); (case side1 => repeat (first | exact (Kd.C_below HR3.out HB.out) | (with_reducible refine Kd.C_alloc ?_ _) | (with_reducible refine Kd.C_drewN ?_ _) | (with_reducible refine Kd.C_drew ?_))); (case side2 => exact HC3.out); rintro e w' ⟨rfl, ⟨nd, rfl⟩⟩; (try first | exact ⟨rfl, _, World.drewN_drewN _ _ _⟩ | exact ⟨rfl, _, Eq.trans (World.drewN_drewN _ _ _) (congrArg (World.drewN _) (Nat.add_assoc _ _ _))⟩))); try go_wp2_with (first | (go_at_call 10; (with_reducible refine (picks_Next.calls k4 x15_4 _ _ l3 t242 _ ?side1 ?side2 A58.out).mono ?_); (case side1 => repeat (first | exact (Kd.C_below HR3.out HB.out) | (with_reducible refine Kd.C_alloc ?_ _) | (with_reducible refine Kd.C_drewN ?_ _) | (with_reducible refine Kd.C_drew ?_))); (case side2 => exact HC3.out); rintro e w' ⟨rfl, ⟨nd, rfl⟩⟩; (try first | exact ⟨rfl, _, World.drewN_drewN _ _ _⟩ | exact ⟨rfl, _, Eq.trans (World.drewN_drewN _ _ _) (congrArg (World.drewN _) (Nat.add_assoc _ _ _))⟩))))
                                      go_roundg k4
                                      case measure => have := HJ5.out; have := HJ17.out; have := HK3.out; have := HK4.out; omega
                                      case rel => exact ⟨(true), (wrap64 (x15_4 + 1)), (by first | rfl | (simp; done) | (simp [*]; done)), (by first | rfl | (simp; done) | (simp [*]; done)), H', ⟨by have := HJ5.out; have := HJ17.out; have := HK3.out; have := HK4.out; omega⟩, ⟨by repeat (first | (with_reducible first | exact HB.out | apply below_alloc | apply pw_below_drewN | apply below_drew1) | exact HB.out)⟩⟩
                                    · rw [if_neg c59] at H
                                      have c59b0 : (t242 == x15_4) = false := beq_eq_false_iff_ne.mpr c59
                                      have c59b1 : (t242 != x15_4) = true := bne_iff_ne.mpr c59
                                      obtain rfl := Option.some.inj H
                                      have p240 : 0 ≤ (x15_4 : Int) := of_decide_eq_true (by first | (with_reducible assumption) | assumption)
                                      have q240 : x15_4 < (l3.length : Int) := of_decide_eq_true (by first | (with_reducible assumption) | assumption)
                                      obtain ⟨ad240, e240, hx240_0⟩ := Kd.at_bool HR3.out x15_4 p240 q240
                                      (try rw [← Nbq56.out] at hx240_0)
                                      cases e240
                                      replace hx240_0 := (HB.out.cell (World.block_lt_of_cell? w _ hx240_0)).trans hx240_0
                                      replace p240 := eq_true p240
                                      replace q240 := eq_true q240
                                      have p241 : 0 ≤ (x15_4 : Int) := of_decide_eq_true (by first | (with_reducible assumption) | assumption)
                                      have q241 : x15_4 < (l3.length : Int) := of_decide_eq_true (by first | (with_reducible assumption) | assumption)
                                      obtain ⟨ad241, e241, hx241_0⟩ := Kd.at_bool HR3.out x15_4 p241 q241
                                      (try rw [← Nbq56.out] at hx241_0)
                                      obtain rfl : ad240 = ad241 := (by injection e241)
                                      replace hx241_0 := (HB.out.cell (World.block_lt_of_cell? w _ hx241_0)).trans hx241_0
                                      replace p241 := eq_true p241
                                      replace q241 := eq_true q241
                                      go_wp2_with (first | (go_at_call 10; (with_reducible refine (picks_Next.calls k4 x15_4 _ _ l3 t242 _ ?side1 ?side2 A58.out).mono ?_); (case side1 => repeat (first | exact (Kd.C_below HR3.out HB.out) | (with_reducible refine Kd.C_alloc ?_ _) | (with_reducible refine Kd.C_drewN ?_ _) | (with_reducible refine Kd.C_drew ?_))); (case side2 => exact HC3.out); rintro e w' ⟨rfl, ⟨nd, rfl⟩⟩; (try first | exact ⟨rfl, _, World.drewN_drewN _ _ _⟩ | exact ⟨rfl, _, Eq.trans (World.drewN_drewN _ _ _) (congrArg (World.drewN _) (Nat.add_assoc _ _ _))⟩)))
                                      repeat (go_quiet (first | (go_at_call 10; (with_reducible refine (picks_Next.calls k4 x15_4 _ _ l3 t242 _ ?side1 ?side2 A58.out).mono ?_); (case side1 => repeat (first | exact (Kd.C_below HR3.out HB.out) | (with_reducible refine Kd.C_alloc ?_ _) | (with_reducible refine Kd.C_drewN ?_ _) | (with_reducible refine Kd.C_drew ?_))); (case side2 => exact HC3.out); rintro e w' ⟨rfl, ⟨nd, rfl⟩⟩; (try first | exact ⟨rfl, _, World.drewN_drewN _ _ _⟩ | exact ⟨rfl, _, Eq.trans (World.drewN_drewN _ _ _) (congrArg (World.drewN _) (Nat.add_assoc _ _ _))⟩))); try go_wp2_with (first | (go_at_call 10; (with_reducible refine (picks_Next.calls k4 x15_4 _ _ l3 t242 _ ?side1 ?side2 A58.out).mono ?_); (case side1 => repeat (first | exact (Kd.C_below HR3.out HB.out) | (with_reducible refine Kd.C_alloc ?_ _) | (with_reducible refine Kd.C_drewN ?_ _) | (with_reducible refine Kd.C_drew ?_))); (case side2 => exact HC3.out); rintro e w' ⟨rfl, ⟨nd, rfl⟩⟩; (try first | exact ⟨rfl, _, World.drewN_drewN _ _ _⟩ | exact ⟨rfl, _, Eq.trans (World.drewN_drewN _ _ _) (congrArg (World.drewN _) (Nat.add_assoc _ _ _))⟩))))
                                      go_ret
                                      exact ⟨by first | rfl | (simp [errW_none, errW_some] <;> rfl) | (simp [*, errW_none, errW_some] <;> rfl), by repeat (first | (with_reducible first | exact HB.out | apply below_alloc | apply pw_below_drewN | apply below_drew1) | exact HB.out)⟩
                                  · replace c57 := Bool.eq_false_iff.mpr c57
                                    subst c57
                                    have H1 : (pantrylaw20_PicksSteps.l1 k4 l0 l3 t216 false (wrap64 (x15_4 + 1))) = some r := by rw [if_neg (show ¬ (false = true) by decide)] at H; exact H
                                    clear H
                                    have H := H1
                                    clear H1
                                    have H' := Aside0.mk H
                                    clear H
                                    have p240 : 0 ≤ (x15_4 : Int) := of_decide_eq_true (by first | (with_reducible assumption) | assumption)
                                    have q240 : x15_4 < (l3.length : Int) := of_decide_eq_true (by first | (with_reducible assumption) | assumption)
                                    obtain ⟨ad240, e240, hx240_0⟩ := Kd.at_bool HR3.out x15_4 p240 q240
                                    (try rw [← Nbq56.out] at hx240_0)
                                    cases e240
                                    replace hx240_0 := (HB.out.cell (World.block_lt_of_cell? w _ hx240_0)).trans hx240_0
                                    replace p240 := eq_true p240
                                    replace q240 := eq_true q240
                                    have p241 : 0 ≤ (x15_4 : Int) := of_decide_eq_true (by first | (with_reducible assumption) | assumption)
                                    have q241 : x15_4 < (l3.length : Int) := of_decide_eq_true (by first | (with_reducible assumption) | assumption)
                                    obtain ⟨ad241, e241, hx241_0⟩ := Kd.at_bool HR3.out x15_4 p241 q241
                                    (try rw [← Nbq56.out] at hx241_0)
                                    obtain rfl : ad240 = ad241 := (by injection e241)
                                    replace hx241_0 := (HB.out.cell (World.block_lt_of_cell? w _ hx241_0)).trans hx241_0
                                    replace p241 := eq_true p241
                                    replace q241 := eq_true q241
                                    go_wp2
                                    repeat (go_quiet (fail); try go_wp2)
                                    go_roundg k4
                                    case measure => have := HJ5.out; have := HJ17.out; have := HK3.out; have := HK4.out; omega
                                    case rel => exact ⟨(false), (wrap64 (x15_4 + 1)), (by first | rfl | (simp; done) | (simp [*]; done)), (by first | rfl | (simp; done) | (simp [*]; done)), H', ⟨by have := HJ5.out; have := HJ17.out; have := HK3.out; have := HK4.out; omega⟩, ⟨by repeat (first | (with_reducible first | exact HB.out | apply below_alloc | apply pw_below_drewN | apply below_drew1) | exact HB.out)⟩⟩
                                · rw [if_neg c55] at H
                                  exact absurd H (by simp)
                            · rw [if_neg c48] at H
                              have c48b0 : decide (x15_4 < (l3.length : Int)) = false := decide_eq_false c48
                              clear c48
                              have H' := Aside0.mk H
                              clear H
                              go_wp2
                              repeat (go_quiet (fail); try go_wp2)
                              go_loopg [16] k4 (fun kq v16 w' => ∃ (x16_5 : Int), v16 = .int .i64 x16_5 ∧ Aside0 (pantrylaw20_PicksSteps.l2 kq l0 l3 t216 x14_4 x16_5 = some r) ∧ Aside0 (kq ≤ k4) ∧ Aside0 (Below w.heap.size w w'))
                              case atStart => exact ⟨(0), (by first | rfl | (simp; done) | (simp [*]; done)), H', ⟨Nat.le_refl _⟩, ⟨by repeat (first | (with_reducible first | exact HB.out | apply below_alloc | apply pw_below_drewN | apply below_drew1) | exact HB.out)⟩⟩
                              case round =>
                                clear H'
                                try clear c1
                                try clear c2
                                try clear p2
                                try clear q2
                                try clear hx2
                                try clear c3
                                try clear c4
                                try clear c5
                                try clear q5
                                try clear p6
                                try clear c7
                                try clear c8
                                try clear c8b0
                                try clear c8b1
                                try clear c9
                                try clear c9b0
                                try clear c9b1
                                try clear c10
                                try clear c10b0
                                try clear c11
                                try clear c11b0
                                try clear c12
                                try clear c15
                                try clear c16
                                try clear p23
                                try clear q23
                                try clear hx23
                                try clear p24
                                try clear q24
                                try clear hx24
                                try clear c27
                                try clear c27b0
                                try clear c27b1
                                try clear c28
                                try clear c28b0
                                try clear c28b1
                                try clear c35
                                try clear c36
                                try clear c36b0
                                try clear c37
                                try clear c37b0
                                try clear c38
                                try clear c38b0
                                try clear c39
                                try clear c39b0
                                try clear c40
                                try clear c40b0
                                try clear c41
                                try clear c41b0
                                try clear c41b1
                                try clear c48
                                try clear c48b0
                                try clear c49
                                try clear c50
                                try clear c50b0
                                try clear q51
                                try clear c52
                                try clear c54
                                try clear c54b0
                                try clear c54b1
                                try clear c55
                                try clear c55b0
                                try clear q56
                                try clear c57
                                try clear c59
                                try clear c59b0
                                try clear c59b1
                                try clear hx235_0
                                try clear hx236_0
                                try clear hx237_0
                                try clear hx238_0
                                try clear hx240_0
                                try clear hx241_0
                                try clear p2
                                try clear p23
                                try clear p235
                                try clear p236
                                try clear p237
                                try clear p238
                                try clear p240
                                try clear p241
                                try clear p6
                                try clear q2
                                try clear q23
                                try clear q235
                                try clear q236
                                try clear q237
                                try clear q238
                                try clear q240
                                try clear q241
                                obtain ⟨x16_5, rfl, HA, HK5, HB⟩ := hrel
                                cases gk with
                                | zero => exact absurd HA.out (by simp [pantrylaw20_PicksSteps.l2])
                                | succ k5 =>
                                  have H := HA.out
                                  clear HA
                                  simp only [pantrylaw20_PicksSteps.l2] at H
                                  by_cases c60 : x16_5 < (l0.length : Int)
                                  · rw [if_pos c60] at H
                                    have c60b0 : decide (x16_5 < (l0.length : Int)) = true := decide_eq_true c60
                                    clear c60
                                    by_cases c61 : 0 ≤ x16_5
                                    · rw [if_pos c61] at H
                                      have c61b0 : decide (0 ≤ x16_5) = true := decide_eq_true c61
                                      clear c61
                                      replace H := Option.bind_eq_some_iff.mp H
                                      obtain ⟨t244, A620, H⟩ := H
                                      replace H : (if ((decide (t244 ≥ 0)) != x14_4) = true then (some false) else (if t244 ≥ (l3.length : Int) then (some false) else (if t244 ≥ 0 then (if 0 ≤ t244 then (if t244 < (l3.length : Int) then (if rdOf false l3 t244 = true then (pantrylaw20_PicksSteps.l2 k5 l0 l3 t216 x14_4 (wrap64 (x16_5 + 1))) else (some false)) else (none)) else (none)) else (pantrylaw20_PicksSteps.l2 k5 l0 l3 t216 x14_4 (wrap64 (x16_5 + 1)))))) = some r := H
                                      have A62 := Aside0.mk A620
                                      clear A620
                                      by_cases c63 : ((decide (t244 ≥ 0)) != x14_4) = true
                                      · rw [if_pos c63] at H
                                        have c63b0 : ((decide (t244 ≥ 0)) != x14_4) = true := c63
                                        (try (have c63b1 : decide ((decide (t244 ≥ 0)) = x14_4) = false := by simpa using c63))
                                        (try (have c63b2 : ((decide (t244 ≥ 0)) == x14_4) = false := by simpa using c63))
                                        (try (have c63b3 : ¬ ((decide (t244 ≥ 0)) = x14_4) := by simpa using c63))
                                        clear c63
                                        obtain rfl := Option.some.inj H
                                        have p243 : 0 ≤ (x16_5 : Int) := of_decide_eq_true (by first | (with_reducible assumption) | assumption)
                                        have q243 : x16_5 < (l0.length : Int) := of_decide_eq_true (by first | (with_reducible assumption) | assumption)
                                        obtain ⟨ad243, e243, hx243_0⟩ := Kd.at_int HR0.out x16_5 p243 q243
                                        cases e243
                                        replace hx243_0 := (HB.out.cell (World.block_lt_of_cell? w _ hx243_0)).trans hx243_0
                                        replace p243 := eq_true p243
                                        replace q243 := eq_true q243
                                        go_wp2_with (first | (go_at_call 10; (with_reducible refine (picks_Next.calls k5 (rd l0 x16_5) _ _ l3 t244 _ ?side1 ?side2 A62.out).mono ?_); (case side1 => repeat (first | exact (Kd.C_below HR3.out HB.out) | (with_reducible refine Kd.C_alloc ?_ _) | (with_reducible refine Kd.C_drewN ?_ _) | (with_reducible refine Kd.C_drew ?_))); (case side2 => exact HC3.out); rintro e w' ⟨rfl, ⟨nd, rfl⟩⟩; (try first | exact ⟨rfl, _, World.drewN_drewN _ _ _⟩ | exact ⟨rfl, _, Eq.trans (World.drewN_drewN _ _ _) (congrArg (World.drewN _) (Nat.add_assoc _ _ _))⟩)))
                                        repeat (go_quiet (first | (go_at_call 10; (with_reducible refine (picks_Next.calls k5 (rd l0 x16_5) _ _ l3 t244 _ ?side1 ?side2 A62.out).mono ?_); (case side1 => repeat (first | exact (Kd.C_below HR3.out HB.out) | (with_reducible refine Kd.C_alloc ?_ _) | (with_reducible refine Kd.C_drewN ?_ _) | (with_reducible refine Kd.C_drew ?_))); (case side2 => exact HC3.out); rintro e w' ⟨rfl, ⟨nd, rfl⟩⟩; (try first | exact ⟨rfl, _, World.drewN_drewN _ _ _⟩ | exact ⟨rfl, _, Eq.trans (World.drewN_drewN _ _ _) (congrArg (World.drewN _) (Nat.add_assoc _ _ _))⟩))); try go_wp2_with (first | (go_at_call 10; (with_reducible refine (picks_Next.calls k5 (rd l0 x16_5) _ _ l3 t244 _ ?side1 ?side2 A62.out).mono ?_); (case side1 => repeat (first | exact (Kd.C_below HR3.out HB.out) | (with_reducible refine Kd.C_alloc ?_ _) | (with_reducible refine Kd.C_drewN ?_ _) | (with_reducible refine Kd.C_drew ?_))); (case side2 => exact HC3.out); rintro e w' ⟨rfl, ⟨nd, rfl⟩⟩; (try first | exact ⟨rfl, _, World.drewN_drewN _ _ _⟩ | exact ⟨rfl, _, Eq.trans (World.drewN_drewN _ _ _) (congrArg (World.drewN _) (Nat.add_assoc _ _ _))⟩))))
                                        go_ret
                                        exact ⟨by first | rfl | (simp [errW_none, errW_some] <;> rfl) | (simp [*, errW_none, errW_some] <;> rfl), by repeat (first | (with_reducible first | exact HB.out | apply below_alloc | apply pw_below_drewN | apply below_drew1) | exact HB.out)⟩
                                      · rw [if_neg c63] at H
                                        have c63b0 : ((decide (t244 ≥ 0)) != x14_4) = false := by simpa using c63
                                        (try (have c63b1 : decide ((decide (t244 ≥ 0)) = x14_4) = true := by simpa using c63))
                                        (try (have c63b2 : ((decide (t244 ≥ 0)) == x14_4) = true := by simpa using c63))
                                        clear c63
                                        by_cases c64 : t244 ≥ (l3.length : Int)
                                        · rw [if_pos c64] at H
                                          have c64b0 : decide ((l3.length : Int) ≤ t244) = true := decide_eq_true c64
                                          clear c64
                                          obtain rfl := Option.some.inj H
                                          have p243 : 0 ≤ (x16_5 : Int) := of_decide_eq_true (by first | (with_reducible assumption) | assumption)
                                          have q243 : x16_5 < (l0.length : Int) := of_decide_eq_true (by first | (with_reducible assumption) | assumption)
                                          obtain ⟨ad243, e243, hx243_0⟩ := Kd.at_int HR0.out x16_5 p243 q243
                                          cases e243
                                          replace hx243_0 := (HB.out.cell (World.block_lt_of_cell? w _ hx243_0)).trans hx243_0
                                          replace p243 := eq_true p243
                                          replace q243 := eq_true q243
                                          go_wp2_with (first | (go_at_call 10; (with_reducible refine (picks_Next.calls k5 (rd l0 x16_5) _ _ l3 t244 _ ?side1 ?side2 A62.out).mono ?_); (case side1 => repeat (first | exact (Kd.C_below HR3.out HB.out) | (with_reducible refine Kd.C_alloc ?_ _) | (with_reducible refine Kd.C_drewN ?_ _) | (with_reducible refine Kd.C_drew ?_))); (case side2 => exact HC3.out); rintro e w' ⟨rfl, ⟨nd, rfl⟩⟩; (try first | exact ⟨rfl, _, World.drewN_drewN _ _ _⟩ | exact ⟨rfl, _, Eq.trans (World.drewN_drewN _ _ _) (congrArg (World.drewN _) (Nat.add_assoc _ _ _))⟩)))
                                          repeat (go_quiet (first | (go_at_call 10; (with_reducible refine (picks_Next.calls k5 (rd l0 x16_5) _ _ l3 t244 _ ?side1 ?side2 A62.out).mono ?_); (case side1 => repeat (first | exact (Kd.C_below HR3.out HB.out) | (with_reducible refine Kd.C_alloc ?_ _) | (with_reducible refine Kd.C_drewN ?_ _) | (with_reducible refine Kd.C_drew ?_))); (case side2 => exact HC3.out); rintro e w' ⟨rfl, ⟨nd, rfl⟩⟩; (try first | exact ⟨rfl, _, World.drewN_drewN _ _ _⟩ | exact ⟨rfl, _, Eq.trans (World.drewN_drewN _ _ _) (congrArg (World.drewN _) (Nat.add_assoc _ _ _))⟩))); try go_wp2_with (first | (go_at_call 10; (with_reducible refine (picks_Next.calls k5 (rd l0 x16_5) _ _ l3 t244 _ ?side1 ?side2 A62.out).mono ?_); (case side1 => repeat (first | exact (Kd.C_below HR3.out HB.out) | (with_reducible refine Kd.C_alloc ?_ _) | (with_reducible refine Kd.C_drewN ?_ _) | (with_reducible refine Kd.C_drew ?_))); (case side2 => exact HC3.out); rintro e w' ⟨rfl, ⟨nd, rfl⟩⟩; (try first | exact ⟨rfl, _, World.drewN_drewN _ _ _⟩ | exact ⟨rfl, _, Eq.trans (World.drewN_drewN _ _ _) (congrArg (World.drewN _) (Nat.add_assoc _ _ _))⟩))))
                                          go_ret
                                          exact ⟨by first | rfl | (simp [errW_none, errW_some] <;> rfl) | (simp [*, errW_none, errW_some] <;> rfl), by repeat (first | (with_reducible first | exact HB.out | apply below_alloc | apply pw_below_drewN | apply below_drew1) | exact HB.out)⟩
                                        · rw [if_neg c64] at H
                                          have c64b0 : decide ((l3.length : Int) ≤ t244) = false := decide_eq_false c64
                                          clear c64
                                          by_cases c65 : t244 ≥ 0
                                          · rw [if_pos c65] at H
                                            have c65b0 : decide (0 ≤ t244) = true := decide_eq_true c65
                                            obtain rfl : x14_4 = true := by cases x14_4 with | true => rfl | false => exact absurd c63b0 (by rw [show decide (t244 ≥ 0) = true from decide_eq_true c65]; decide)
                                            clear c65
                                            by_cases c66 : 0 ≤ t244
                                            · rw [if_pos c66] at H
                                              have c66b0 : decide (0 ≤ t244) = true := decide_eq_true c66
                                              clear c66
                                              by_cases c67 : t244 < (l3.length : Int)
                                              · rw [if_pos c67] at H
                                                have c67b0 : decide (t244 < (l3.length : Int)) = true := decide_eq_true c67
                                                clear c67
                                                obtain ⟨bq68, hbq68⟩ : ∃ b_ : Bool, b_ = (rdOf false l3 t244) := ⟨_, rfl⟩
                                                replace H : (if bq68 = true then (pantrylaw20_PicksSteps.l2 k5 l0 l3 t216 true (wrap64 (x16_5 + 1))) else (some false)) = some r := by rw [← hbq68] at H; exact H
                                                have Nbq68 := Aside0.mk hbq68
                                                clear hbq68
                                                by_cases c69 : bq68 = true
                                                · subst c69
                                                  have H1 : (pantrylaw20_PicksSteps.l2 k5 l0 l3 t216 true (wrap64 (x16_5 + 1))) = some r := by rw [if_pos rfl] at H; exact H
                                                  clear H
                                                  have H := H1
                                                  clear H1
                                                  have H' := Aside0.mk H
                                                  clear H
                                                  have p243 : 0 ≤ (x16_5 : Int) := of_decide_eq_true (by first | (with_reducible assumption) | assumption)
                                                  have q243 : x16_5 < (l0.length : Int) := of_decide_eq_true (by first | (with_reducible assumption) | assumption)
                                                  obtain ⟨ad243, e243, hx243_0⟩ := Kd.at_int HR0.out x16_5 p243 q243
                                                  cases e243
                                                  replace hx243_0 := (HB.out.cell (World.block_lt_of_cell? w _ hx243_0)).trans hx243_0
                                                  replace p243 := eq_true p243
                                                  replace q243 := eq_true q243
                                                  go_wp2_with (first | (go_at_call 10; (with_reducible refine (picks_Next.calls k5 (rd l0 x16_5) _ _ l3 t244 _ ?side1 ?side2 A62.out).mono ?_); (case side1 => repeat (first | exact (Kd.C_below HR3.out HB.out) | (with_reducible refine Kd.C_alloc ?_ _) | (with_reducible refine Kd.C_drewN ?_ _) | (with_reducible refine Kd.C_drew ?_))); (case side2 => exact HC3.out); rintro e w' ⟨rfl, ⟨nd, rfl⟩⟩; (try first | exact ⟨rfl, _, World.drewN_drewN _ _ _⟩ | exact ⟨rfl, _, Eq.trans (World.drewN_drewN _ _ _) (congrArg (World.drewN _) (Nat.add_assoc _ _ _))⟩); have p245 : 0 ≤ (t244 : Int) := of_decide_eq_true (by first | (with_reducible assumption) | assumption); have q245 : t244 < (l3.length : Int) := of_decide_eq_true (by first | (with_reducible assumption) | assumption); obtain ⟨ad245, e245, hx245_0⟩ := Kd.at_bool HR3.out t244 p245 q245; (try rw [← Nbq68.out] at hx245_0); cases e245; replace hx245_0 := (HB.out.cell (World.block_lt_of_cell? w _ hx245_0)).trans hx245_0; replace p245 := eq_true p245; replace q245 := eq_true q245))
                                                  repeat (go_quiet (first | (go_at_call 10; (with_reducible refine (picks_Next.calls k5 (rd l0 x16_5) _ _ l3 t244 _ ?side1 ?side2 A62.out).mono ?_); (case side1 => repeat (first | exact (Kd.C_below HR3.out HB.out) | (with_reducible refine Kd.C_alloc ?_ _) | (with_reducible refine Kd.C_drewN ?_ _) | (with_reducible refine Kd.C_drew ?_))); (case side2 => exact HC3.out); rintro e w' ⟨rfl, ⟨nd, rfl⟩⟩; (try first | exact ⟨rfl, _, World.drewN_drewN _ _ _⟩ | exact ⟨rfl, _, Eq.trans (World.drewN_drewN _ _ _) (congrArg (World.drewN _) (Nat.add_assoc _ _ _))⟩); have p245 : 0 ≤ (t244 : Int) := of_decide_eq_true (by first | (with_reducible assumption) | assumption); have q245 : t244 < (l3.length : Int) := of_decide_eq_true (by first | (with_reducible assumption) | assumption); obtain ⟨ad245, e245, hx245_0⟩ := Kd.at_bool HR3.out t244 p245 q245; (try rw [← Nbq68.out] at hx245_0); cases e245; replace hx245_0 := (HB.out.cell (World.block_lt_of_cell? w _ hx245_0)).trans hx245_0; replace p245 := eq_true p245; replace q245 := eq_true q245)); try go_wp2_with (first | (go_at_call 10; (with_reducible refine (picks_Next.calls k5 (rd l0 x16_5) _ _ l3 t244 _ ?side1 ?side2 A62.out).mono ?_); (case side1 => repeat (first | exact (Kd.C_below HR3.out HB.out) | (with_reducible refine Kd.C_alloc ?_ _) | (with_reducible refine Kd.C_drewN ?_ _) | (with_reducible refine Kd.C_drew ?_))); (case side2 => exact HC3.out); rintro e w' ⟨rfl, ⟨nd, rfl⟩⟩; (try first | exact ⟨rfl, _, World.drewN_drewN _ _ _⟩ | exact ⟨rfl, _, Eq.trans (World.drewN_drewN _ _ _) (congrArg (World.drewN _) (Nat.add_assoc _ _ _))⟩); have p245 : 0 ≤ (t244 : Int) := of_decide_eq_true (by first | (with_reducible assumption) | assumption); have q245 : t244 < (l3.length : Int) := of_decide_eq_true (by first | (with_reducible assumption) | assumption); obtain ⟨ad245, e245, hx245_0⟩ := Kd.at_bool HR3.out t244 p245 q245; (try rw [← Nbq68.out] at hx245_0); cases e245; replace hx245_0 := (HB.out.cell (World.block_lt_of_cell? w _ hx245_0)).trans hx245_0; replace p245 := eq_true p245; replace q245 := eq_true q245)))
                                                  go_roundg k5
                                                  case measure => have := HJ5.out; have := HJ17.out; have := HK3.out; have := HK4.out; have := HK5.out; omega
                                                  case rel => exact ⟨(wrap64 (x16_5 + 1)), (by first | rfl | (simp; done) | (simp [*]; done)), H', ⟨by have := HJ5.out; have := HJ17.out; have := HK3.out; have := HK4.out; have := HK5.out; omega⟩, ⟨by repeat (first | (with_reducible first | exact HB.out | apply below_alloc | apply pw_below_drewN | apply below_drew1) | exact HB.out)⟩⟩
                                                · replace c69 := Bool.eq_false_iff.mpr c69
                                                  subst c69
                                                  have H1 : (some false) = some r := by rw [if_neg (show ¬ (false = true) by decide)] at H; exact H
                                                  clear H
                                                  have H := H1
                                                  clear H1
                                                  obtain rfl := Option.some.inj H
                                                  have p243 : 0 ≤ (x16_5 : Int) := of_decide_eq_true (by first | (with_reducible assumption) | assumption)
                                                  have q243 : x16_5 < (l0.length : Int) := of_decide_eq_true (by first | (with_reducible assumption) | assumption)
                                                  obtain ⟨ad243, e243, hx243_0⟩ := Kd.at_int HR0.out x16_5 p243 q243
                                                  cases e243
                                                  replace hx243_0 := (HB.out.cell (World.block_lt_of_cell? w _ hx243_0)).trans hx243_0
                                                  replace p243 := eq_true p243
                                                  replace q243 := eq_true q243
                                                  go_wp2_with (first | (go_at_call 10; (with_reducible refine (picks_Next.calls k5 (rd l0 x16_5) _ _ l3 t244 _ ?side1 ?side2 A62.out).mono ?_); (case side1 => repeat (first | exact (Kd.C_below HR3.out HB.out) | (with_reducible refine Kd.C_alloc ?_ _) | (with_reducible refine Kd.C_drewN ?_ _) | (with_reducible refine Kd.C_drew ?_))); (case side2 => exact HC3.out); rintro e w' ⟨rfl, ⟨nd, rfl⟩⟩; (try first | exact ⟨rfl, _, World.drewN_drewN _ _ _⟩ | exact ⟨rfl, _, Eq.trans (World.drewN_drewN _ _ _) (congrArg (World.drewN _) (Nat.add_assoc _ _ _))⟩); have p245 : 0 ≤ (t244 : Int) := of_decide_eq_true (by first | (with_reducible assumption) | assumption); have q245 : t244 < (l3.length : Int) := of_decide_eq_true (by first | (with_reducible assumption) | assumption); obtain ⟨ad245, e245, hx245_0⟩ := Kd.at_bool HR3.out t244 p245 q245; (try rw [← Nbq68.out] at hx245_0); cases e245; replace hx245_0 := (HB.out.cell (World.block_lt_of_cell? w _ hx245_0)).trans hx245_0; replace p245 := eq_true p245; replace q245 := eq_true q245))
                                                  repeat (go_quiet (first | (go_at_call 10; (with_reducible refine (picks_Next.calls k5 (rd l0 x16_5) _ _ l3 t244 _ ?side1 ?side2 A62.out).mono ?_); (case side1 => repeat (first | exact (Kd.C_below HR3.out HB.out) | (with_reducible refine Kd.C_alloc ?_ _) | (with_reducible refine Kd.C_drewN ?_ _) | (with_reducible refine Kd.C_drew ?_))); (case side2 => exact HC3.out); rintro e w' ⟨rfl, ⟨nd, rfl⟩⟩; (try first | exact ⟨rfl, _, World.drewN_drewN _ _ _⟩ | exact ⟨rfl, _, Eq.trans (World.drewN_drewN _ _ _) (congrArg (World.drewN _) (Nat.add_assoc _ _ _))⟩); have p245 : 0 ≤ (t244 : Int) := of_decide_eq_true (by first | (with_reducible assumption) | assumption); have q245 : t244 < (l3.length : Int) := of_decide_eq_true (by first | (with_reducible assumption) | assumption); obtain ⟨ad245, e245, hx245_0⟩ := Kd.at_bool HR3.out t244 p245 q245; (try rw [← Nbq68.out] at hx245_0); cases e245; replace hx245_0 := (HB.out.cell (World.block_lt_of_cell? w _ hx245_0)).trans hx245_0; replace p245 := eq_true p245; replace q245 := eq_true q245)); try go_wp2_with (first | (go_at_call 10; (with_reducible refine (picks_Next.calls k5 (rd l0 x16_5) _ _ l3 t244 _ ?side1 ?side2 A62.out).mono ?_); (case side1 => repeat (first | exact (Kd.C_below HR3.out HB.out) | (with_reducible refine Kd.C_alloc ?_ _) | (with_reducible refine Kd.C_drewN ?_ _) | (with_reducible refine Kd.C_drew ?_))); (case side2 => exact HC3.out); rintro e w' ⟨rfl, ⟨nd, rfl⟩⟩; (try first | exact ⟨rfl, _, World.drewN_drewN _ _ _⟩ | exact ⟨rfl, _, Eq.trans (World.drewN_drewN _ _ _) (congrArg (World.drewN _) (Nat.add_assoc _ _ _))⟩); have p245 : 0 ≤ (t244 : Int) := of_decide_eq_true (by first | (with_reducible assumption) | assumption); have q245 : t244 < (l3.length : Int) := of_decide_eq_true (by first | (with_reducible assumption) | assumption); obtain ⟨ad245, e245, hx245_0⟩ := Kd.at_bool HR3.out t244 p245 q245; (try rw [← Nbq68.out] at hx245_0); cases e245; replace hx245_0 := (HB.out.cell (World.block_lt_of_cell? w _ hx245_0)).trans hx245_0; replace p245 := eq_true p245; replace q245 := eq_true q245)))
                                                  go_ret
                                                  exact ⟨by first | rfl | (simp [errW_none, errW_some] <;> rfl) | (simp [*, errW_none, errW_some] <;> rfl), by repeat (first | (with_reducible first | exact HB.out | apply below_alloc | apply pw_below_drewN | apply below_drew1) | exact HB.out)⟩
                                              · rw [if_neg c67] at H
                                                exact absurd H (by simp)
                                            · rw [if_neg c66] at H
                                              exact absurd H (by simp)
                                          · rw [if_neg c65] at H
                                            have c65b0 : decide (0 ≤ t244) = false := decide_eq_false c65
                                            obtain rfl : x14_4 = false := by cases x14_4 with | false => rfl | true => exact absurd c63b0 (by rw [show decide (t244 ≥ 0) = false from decide_eq_false c65]; decide)
                                            clear c65
                                            have H' := Aside0.mk H
                                            clear H
                                            have p243 : 0 ≤ (x16_5 : Int) := of_decide_eq_true (by first | (with_reducible assumption) | assumption)
                                            have q243 : x16_5 < (l0.length : Int) := of_decide_eq_true (by first | (with_reducible assumption) | assumption)
                                            obtain ⟨ad243, e243, hx243_0⟩ := Kd.at_int HR0.out x16_5 p243 q243
                                            cases e243
                                            replace hx243_0 := (HB.out.cell (World.block_lt_of_cell? w _ hx243_0)).trans hx243_0
                                            replace p243 := eq_true p243
                                            replace q243 := eq_true q243
                                            go_wp2_with (first | (go_at_call 10; (with_reducible refine (picks_Next.calls k5 (rd l0 x16_5) _ _ l3 t244 _ ?side1 ?side2 A62.out).mono ?_); (case side1 => repeat (first | exact (Kd.C_below HR3.out HB.out) | (with_reducible refine Kd.C_alloc ?_ _) | (with_reducible refine Kd.C_drewN ?_ _) | (with_reducible refine Kd.C_drew ?_))); (case side2 => exact HC3.out); rintro e w' ⟨rfl, ⟨nd, rfl⟩⟩; (try first | exact ⟨rfl, _, World.drewN_drewN _ _ _⟩ | exact ⟨rfl, _, Eq.trans (World.drewN_drewN _ _ _) (congrArg (World.drewN _) (Nat.add_assoc _ _ _))⟩)))
                                            repeat (go_quiet (first | (go_at_call 10; (with_reducible refine (picks_Next.calls k5 (rd l0 x16_5) _ _ l3 t244 _ ?side1 ?side2 A62.out).mono ?_); (case side1 => repeat (first | exact (Kd.C_below HR3.out HB.out) | (with_reducible refine Kd.C_alloc ?_ _) | (with_reducible refine Kd.C_drewN ?_ _) | (with_reducible refine Kd.C_drew ?_))); (case side2 => exact HC3.out); rintro e w' ⟨rfl, ⟨nd, rfl⟩⟩; (try first | exact ⟨rfl, _, World.drewN_drewN _ _ _⟩ | exact ⟨rfl, _, Eq.trans (World.drewN_drewN _ _ _) (congrArg (World.drewN _) (Nat.add_assoc _ _ _))⟩))); try go_wp2_with (first | (go_at_call 10; (with_reducible refine (picks_Next.calls k5 (rd l0 x16_5) _ _ l3 t244 _ ?side1 ?side2 A62.out).mono ?_); (case side1 => repeat (first | exact (Kd.C_below HR3.out HB.out) | (with_reducible refine Kd.C_alloc ?_ _) | (with_reducible refine Kd.C_drewN ?_ _) | (with_reducible refine Kd.C_drew ?_))); (case side2 => exact HC3.out); rintro e w' ⟨rfl, ⟨nd, rfl⟩⟩; (try first | exact ⟨rfl, _, World.drewN_drewN _ _ _⟩ | exact ⟨rfl, _, Eq.trans (World.drewN_drewN _ _ _) (congrArg (World.drewN _) (Nat.add_assoc _ _ _))⟩))))
                                            go_roundg k5
                                            case measure => have := HJ5.out; have := HJ17.out; have := HK3.out; have := HK4.out; have := HK5.out; omega
                                            case rel => exact ⟨(wrap64 (x16_5 + 1)), (by first | rfl | (simp; done) | (simp [*]; done)), H', ⟨by have := HJ5.out; have := HJ17.out; have := HK3.out; have := HK4.out; have := HK5.out; omega⟩, ⟨by repeat (first | (with_reducible first | exact HB.out | apply below_alloc | apply pw_below_drewN | apply below_drew1) | exact HB.out)⟩⟩
                                    · rw [if_neg c61] at H
                                      exact absurd H (by simp)
                                  · rw [if_neg c60] at H
                                    have c60b0 : decide (x16_5 < (l0.length : Int)) = false := decide_eq_false c60
                                    clear c60
                                    obtain rfl := Option.some.inj H
                                    go_wp2
                                    repeat (go_quiet (fail); try go_wp2)
                                    go_ret
                                    exact ⟨by first | rfl | (simp [errW_none, errW_some] <;> rfl) | (simp [*, errW_none, errW_some] <;> rfl), by repeat (first | (with_reducible first | exact HB.out | apply below_alloc | apply pw_below_drewN | apply below_drew1) | exact HB.out)⟩
          · rw [if_neg c16] at H
            exact absurd H (by simp)
        · rw [if_neg c15] at H
          exact absurd H (by simp)

end Go.Proofs.Ytbjkcplbilopeaa.OS

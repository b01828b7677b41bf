/- Walks of the Go functions that the statement reaches: each call answers what the plain Lean function beside it says (a step on the way to the statement). Written by a program of the session's own; not a printed file. No conditions. -/
import Derived.Test.YthnkpglljmglaaaOSx0
import Derived.Test.YthnkpglljmglaaaOSx2
import Derived.Test.YthnkpglljmglaaaOSx8
import Derived.Test.YthnkpglljmglaaaOSx9
namespace Go.Proofs.Ythnkpglljmglaaa.OS
open Go.RowKit Go.Proofs.YthnkpglljmglaaaW.PrintWords Go.Proofs.YthnkpglljmglaaaW.PrintLast Go.Proofs.YthnkpglljmglaaaW.PrintMore
attribute [local go_sem] max2_int min2_int max_two min_two max_three min_three max_four min_four   -- for this text's walks alone
set_option linter.unusedVariables false
set_option linter.unusedSimpArgs false

/-! ### pantrylaw17_StatusKeeps: function 5 -/
mutual
def pantrylaw17_StatusKeeps.l0 : Nat → List Int → Bool → List Int → Bool → Int → Option (Bool)
  | 0, _, _, _, _, _ => none
  | k + 1, x0, x3, x4, x5, x6 => if x6 < (x0.length : Int) then (if 0 ≤ x6 then (if (rd x0 x6) = 0 then (pantrylaw17_StatusKeeps.j1 k x0 x3 x4 true x6) else (pantrylaw17_StatusKeeps.j1 k x0 x3 x4 x5 x6)) else (none)) else (some x3)
def pantrylaw17_StatusKeeps.j1 : Nat → List Int → Bool → List Int → Bool → Int → Option (Bool)
  | 0, _, _, _, _, _ => none
  | k + 1, x0, x3, x4, x5, x6 => if 0 ≤ x6 then (if x6 < (x0.length : Int) then (if (rd x0 x6) = 1 then (pantrylaw17_StatusKeeps.j2 k x0 x3 x4 false x6) else (pantrylaw17_StatusKeeps.j2 k x0 x3 x4 x5 x6)) else (none)) else (none)
def pantrylaw17_StatusKeeps.j2 : Nat → List Int → Bool → List Int → Bool → Int → Option (Bool)
  | 0, _, _, _, _, _ => none
  | k + 1, x0, x3, x4, x5, x6 => if x5 = true then (if 0 ≤ x6 then (if x6 < (x4.length : Int) then (if (rd x4 x6) = 1 then (if x6 < (x0.length : Int) then (if (rd x0 x6) = 2 then ((status_Busy.f (rd x4 x6)).bind fun t203 => (if t203 = true then (if (rd x0 x6) = 1 then (pantrylaw17_StatusKeeps.l0 k x0 x3 x4 x5 (wrap64 (x6 + 1))) else (if x6 = 0 then (some false) else (if 0 ≤ (wrap64 (x6 - 1)) then (if (wrap64 (x6 - 1)) < (x4.length : Int) then ((status_Busy.f (rd x4 (wrap64 (x6 - 1)))).bind fun t206 => (if t206 = true then (pantrylaw17_StatusKeeps.l0 k x0 x3 x4 x5 (wrap64 (x6 + 1))) else (some false))) else (none)) else (none)))) else (pantrylaw17_StatusKeeps.l0 k x0 x3 x4 x5 (wrap64 (x6 + 1))))) else ((status_Busy.f (rd x4 x6)).bind fun t208 => (if t208 = true then (if (rd x0 x6) = 1 then (pantrylaw17_StatusKeeps.l0 k x0 x3 x4 x5 (wrap64 (x6 + 1))) else (if x6 = 0 then (some false) else (if 0 ≤ (wrap64 (x6 - 1)) then (if (wrap64 (x6 - 1)) < (x4.length : Int) then ((status_Busy.f (rd x4 (wrap64 (x6 - 1)))).bind fun t211 => (if t211 = true then (pantrylaw17_StatusKeeps.l0 k x0 x3 x4 x5 (wrap64 (x6 + 1))) else (some false))) else (none)) else (none)))) else (pantrylaw17_StatusKeeps.l0 k x0 x3 x4 x5 (wrap64 (x6 + 1)))))) else (none)) else (if (rd x4 x6) = 3 then (if x6 < (x0.length : Int) then (if (rd x0 x6) = 2 then (some false) else ((status_Busy.f (rd x4 x6)).bind fun t216 => (if t216 = true then (if (rd x0 x6) = 1 then (pantrylaw17_StatusKeeps.l0 k x0 x3 x4 x5 (wrap64 (x6 + 1))) else (if x6 = 0 then (some false) else (if 0 ≤ (wrap64 (x6 - 1)) then (if (wrap64 (x6 - 1)) < (x4.length : Int) then ((status_Busy.f (rd x4 (wrap64 (x6 - 1)))).bind fun t219 => (if t219 = true then (pantrylaw17_StatusKeeps.l0 k x0 x3 x4 x5 (wrap64 (x6 + 1))) else (some false))) else (none)) else (none)))) else (pantrylaw17_StatusKeeps.l0 k x0 x3 x4 x5 (wrap64 (x6 + 1)))))) else (none)) else (some false))) else (none)) else (none)) else (if 0 ≤ x6 then (if x6 < (x0.length : Int) then (if (rd x0 x6) = 2 then (if x6 < (x4.length : Int) then ((status_Busy.f (rd x4 x6)).bind fun t222 => (if t222 = true then (if (rd x0 x6) = 1 then (pantrylaw17_StatusKeeps.l0 k x0 x3 x4 x5 (wrap64 (x6 + 1))) else (if x6 = 0 then (some false) else (if 0 ≤ (wrap64 (x6 - 1)) then (if (wrap64 (x6 - 1)) < (x4.length : Int) then ((status_Busy.f (rd x4 (wrap64 (x6 - 1)))).bind fun t225 => (if t225 = true then (pantrylaw17_StatusKeeps.l0 k x0 x3 x4 x5 (wrap64 (x6 + 1))) else (some false))) else (none)) else (none)))) else (pantrylaw17_StatusKeeps.l0 k x0 x3 x4 x5 (wrap64 (x6 + 1))))) else (none)) else (if x6 < (x4.length : Int) then ((status_Busy.f (rd x4 x6)).bind fun t227 => (if t227 = true then (if (rd x0 x6) = 1 then (pantrylaw17_StatusKeeps.l0 k x0 x3 x4 x5 (wrap64 (x6 + 1))) else (if x6 = 0 then (some false) else (if 0 ≤ (wrap64 (x6 - 1)) then (if (wrap64 (x6 - 1)) < (x4.length : Int) then ((status_Busy.f (rd x4 (wrap64 (x6 - 1)))).bind fun t230 => (if t230 = true then (pantrylaw17_StatusKeeps.l0 k x0 x3 x4 x5 (wrap64 (x6 + 1))) else (some false))) else (none)) else (none)))) else (pantrylaw17_StatusKeeps.l0 k x0 x3 x4 x5 (wrap64 (x6 + 1))))) else (none))) else (none)) else (none))
end
def pantrylaw17_StatusKeeps.f (k : Nat) (l0 : List Int) : Option (Bool) := (pantrylaw17_small.f k).bind fun t193 => (if (l0.length : Int) > 1000 then (some t193) else ((status_Play.f k l0).bind fun t194 => (if (t194.length : Int) = (l0.length : Int) then (pantrylaw17_StatusKeeps.l0 k l0 t193 t194 false 0) else (some false))))
theorem pantrylaw17_StatusKeeps.mono_l : ∀ k, (∀ y0 y1 y2 y3 y4, LeO (pantrylaw17_StatusKeeps.l0 k y0 y1 y2 y3 y4) (pantrylaw17_StatusKeeps.l0 (k + 1) y0 y1 y2 y3 y4)) ∧ (∀ y0 y1 y2 y3 y4, LeO (pantrylaw17_StatusKeeps.j1 k y0 y1 y2 y3 y4) (pantrylaw17_StatusKeeps.j1 (k + 1) y0 y1 y2 y3 y4)) ∧ (∀ y0 y1 y2 y3 y4, LeO (pantrylaw17_StatusKeeps.j2 k y0 y1 y2 y3 y4) (pantrylaw17_StatusKeeps.j2 (k + 1) y0 y1 y2 y3 y4))
  | 0 => ⟨fun _ _ _ _ _ r h => by simp [pantrylaw17_StatusKeeps.l0] at h, fun _ _ _ _ _ r h => by simp [pantrylaw17_StatusKeeps.j1] at h, fun _ _ _ _ _ r h => by simp [pantrylaw17_StatusKeeps.j2] at h⟩
  | k + 1 => by
    obtain ⟨ih0, ih1, ih2⟩ := pantrylaw17_StatusKeeps.mono_l k
    refine ⟨?_, ?_, ?_⟩
    · intro y0 y1 y2 y3 y4
      unfold pantrylaw17_StatusKeeps.l0
      repeat' first
      | (with_reducible exact ih0 _ _ _ _ _)
      | (with_reducible exact ih1 _ _ _ _ _)
      | (with_reducible exact ih2 _ _ _ _ _)
      | (with_reducible exact pantrylaw17_small.mono _)
      | (with_reducible exact status_Play.mono _ _)
      | (with_reducible exact LeO.refl _)
      | (with_reducible exact LeO.none _)
      | (with_reducible refine LeO.ite ?_ ?_)
      | (with_reducible refine LeO.bind ?_ (fun _ => ?_))
      | exact ih0 _ _ _ _ _
      | exact ih1 _ _ _ _ _
      | exact ih2 _ _ _ _ _
      | exact pantrylaw17_small.mono _
      | exact status_Play.mono _ _
      | exact LeO.none _
      | refine LeO.ite ?_ ?_
      | refine LeO.bind ?_ (fun _ => ?_)
    · intro y0 y1 y2 y3 y4
      unfold pantrylaw17_StatusKeeps.j1
      repeat' first
      | (with_reducible exact ih0 _ _ _ _ _)
      | (with_reducible exact ih1 _ _ _ _ _)
      | (with_reducible exact ih2 _ _ _ _ _)
      | (with_reducible exact pantrylaw17_small.mono _)
      | (with_reducible exact status_Play.mono _ _)
      | (with_reducible exact LeO.refl _)
      | (with_reducible exact LeO.none _)
      | (with_reducible refine LeO.ite ?_ ?_)
      | (with_reducible refine LeO.bind ?_ (fun _ => ?_))
      | exact ih0 _ _ _ _ _
      | exact ih1 _ _ _ _ _
      | exact ih2 _ _ _ _ _
      | exact pantrylaw17_small.mono _
      | exact status_Play.mono _ _
      | exact LeO.none _
      | refine LeO.ite ?_ ?_
      | refine LeO.bind ?_ (fun _ => ?_)
    · intro y0 y1 y2 y3 y4
      unfold pantrylaw17_StatusKeeps.j2
      repeat' first
      | (with_reducible exact ih0 _ _ _ _ _)
      | (with_reducible exact ih1 _ _ _ _ _)
      | (with_reducible exact ih2 _ _ _ _ _)
      | (with_reducible exact pantrylaw17_small.mono _)
      | (with_reducible exact status_Play.mono _ _)
      | (with_reducible exact LeO.refl _)
      | (with_reducible exact LeO.none _)
      | (with_reducible refine LeO.ite ?_ ?_)
      | (with_reducible refine LeO.bind ?_ (fun _ => ?_))
      | exact ih0 _ _ _ _ _
      | exact ih1 _ _ _ _ _
      | exact ih2 _ _ _ _ _
      | exact pantrylaw17_small.mono _
      | exact status_Play.mono _ _
      | exact LeO.none _
      | refine LeO.ite ?_ ?_
      | refine LeO.bind ?_ (fun _ => ?_)
theorem pantrylaw17_StatusKeeps.mono : ∀ a0 k, LeO (pantrylaw17_StatusKeeps.f k a0) (pantrylaw17_StatusKeeps.f (k + 1) a0) := by
  intro a0 k
  obtain ⟨ih0, ih1, ih2⟩ := pantrylaw17_StatusKeeps.mono_l k
  unfold pantrylaw17_StatusKeeps.f
  repeat' first
      | (with_reducible exact ih0 _ _ _ _ _)
      | (with_reducible exact ih1 _ _ _ _ _)
      | (with_reducible exact ih2 _ _ _ _ _)
      | (with_reducible exact pantrylaw17_small.mono _)
      | (with_reducible exact status_Play.mono _ _)
      | (with_reducible exact LeO.refl _)
      | (with_reducible exact LeO.none _)
      | (with_reducible refine LeO.ite ?_ ?_)
      | (with_reducible refine LeO.bind ?_ (fun _ => ?_))
      | exact ih0 _ _ _ _ _
      | exact ih1 _ _ _ _ _
      | exact ih2 _ _ _ _ _
      | exact pantrylaw17_small.mono _
      | exact status_Play.mono _ _
      | exact LeO.none _
      | refine LeO.ite ?_ ?_
      | refine LeO.bind ?_ (fun _ => ?_)
set_option maxHeartbeats 8000000 in
set_option maxRecDepth 100000 in
theorem pantrylaw17_StatusKeeps.calls (k : Nat) (A0 : Option Addr) (c0 : Nat) (l0 : List Int) (r : Bool) (w : World) (hr0 : Kd.C (Kd.int .i64) w A0 l0.length l0) (hc0 : l0.length ≤ c0) (h : pantrylaw17_StatusKeeps.f k l0 = some r) :
    Calls Try.prog 5 #[.slice A0 l0.length c0] w fun e w' => e = .returned (.bool r) ∧ Below w.heap.size w w' := by
  have HR0 := Aside0.mk hr0
  have HC0 := Aside0.mk hc0
  clear hr0 hc0
  have HB := Aside0.mk (Below.refl w.heap.size w)
  have H : ((pantrylaw17_small.f k).bind fun t193 => (if (l0.length : Int) > 1000 then (some t193) else ((status_Play.f k l0).bind fun t194 => (if (t194.length : Int) = (l0.length : Int) then (pantrylaw17_StatusKeeps.l0 k l0 t193 t194 false 0) else (some false))))) = some r := h
  clear h
  replace H := Option.bind_eq_some_iff.mp H
  obtain ⟨t193, A20, H⟩ := H
  replace H : (if (l0.length : Int) > 1000 then (some t193) else ((status_Play.f k l0).bind fun t194 => (if (t194.length : Int) = (l0.length : Int) then (pantrylaw17_StatusKeeps.l0 k l0 t193 t194 false 0) else (some false)))) = some r := H
  have A2 := Aside0.mk A20
  clear A20
  by_cases c3 : (l0.length : Int) > 1000
  · rw [if_pos c3] at H
    have c3b0 : decide (1000 < (l0.length : Int)) = true := decide_eq_true c3
    have c3b1 : decide (1000 < l0.length) = true := decide_eq_true (by omega)
    clear c3
    obtain rfl := Option.some.inj H
    go_enter Try.func5, Try.ntmps5
    go_wp2_with (first | ((with_reducible refine gate_callee (f := 8) rfl ?_); refine goesL_ (some 7) rfl rfl Try.func8 (by kernel_rfl) rfl #[] rfl (by (try simp only [List.map_toArray, List.map_cons, List.map_nil]); first | done | rfl | (simp only [List.length_drop, List.length_take]; rfl)) ?_; (with_reducible refine (pantrylaw17_small.calls k  t193 _ A2.out).mono ?_); rintro e w4 ⟨rfl, hb⟩; refine ⟨_, rfl, ?_⟩; have n0_ := Aside0.mk (below_step (by repeat (first | (with_reducible first | exact HB.out | apply below_alloc | apply pw_below_drewN | apply below_drew1) | exact HB.out)) hb); clear HB; have HB := n0_; clear n0_; (try clear hb); (try clear hb2); (try clear hk); (try clear hi)))
    go_ret
    exact ⟨by first | rfl | (simp [errW_none, errW_some] <;> rfl) | (simp [*, errW_none, errW_some] <;> rfl), by repeat (first | (with_reducible first | exact HB.out | apply below_alloc | apply pw_below_drewN | apply below_drew1) | exact HB.out)⟩
  · rw [if_neg c3] at H
    have c3b0 : decide (1000 < (l0.length : Int)) = false := decide_eq_false c3
    have c3b1 : decide (1000 < l0.length) = false := decide_eq_false (by omega)
    clear c3
    replace H := Option.bind_eq_some_iff.mp H
    obtain ⟨t194, A50, H⟩ := H
    replace H : (if (t194.length : Int) = (l0.length : Int) then (pantrylaw17_StatusKeeps.l0 k l0 t193 t194 false 0) else (some false)) = some r := H
    have A5 := Aside0.mk A50
    clear A50
    by_cases c6 : (t194.length : Int) = (l0.length : Int)
    · rw [if_pos c6] at H
      have c6b0 : ((t194.length : Int) == (l0.length : Int)) = true := beq_iff_eq.mpr c6
      have c6b1 : ((t194.length : Int) != (l0.length : Int)) = false := bne_eq_false_iff_eq.mpr c6
      have c6b2 : (t194.length == l0.length) = true := by first | simpa using c6 | (simp at c6 ⊢; omega)
      clear c6
      have H' := Aside0.mk H
      clear H
      go_enter Try.func5, Try.ntmps5
      go_wp2_with (first | ((with_reducible refine gate_callee (f := 8) rfl ?_); refine goesL_ (some 7) rfl rfl Try.func8 (by kernel_rfl) rfl #[] rfl (by (try simp only [List.map_toArray, List.map_cons, List.map_nil]); first | done | rfl | (simp only [List.length_drop, List.length_take]; rfl)) ?_; (with_reducible refine (pantrylaw17_small.calls k  t193 _ A2.out).mono ?_); rintro e w7 ⟨rfl, hb⟩; refine ⟨_, rfl, ?_⟩; have n0_ := Aside0.mk (below_step (by repeat (first | (with_reducible first | exact HB.out | apply below_alloc | apply pw_below_drewN | apply below_drew1) | exact HB.out)) hb); clear HB; have HB := n0_; clear n0_; (try clear hb); (try clear hb2); (try clear hk); (try clear hi)) | ((with_reducible refine gate_callee (f := 22) rfl ?_); refine goesL_ (some 13) rfl rfl Try.func22 (by kernel_rfl) rfl #[.slice A0 l0.length c0] rfl (by (try simp only [List.map_toArray, List.map_cons, List.map_nil]); first | done | rfl | (simp only [List.length_drop, List.length_take]; rfl)) ?_; (with_reducible refine (status_Play.calls k _ _ l0 t194 _ ?side1 ?side2 A5.out).mono ?_); (case side1 => repeat (first | exact (Kd.C_below HR0.out HB.out) | (with_reducible refine Kd.C_alloc ?_ _) | (with_reducible refine Kd.C_drewN ?_ _) | (with_reducible refine Kd.C_drew ?_))); (case side2 => exact HC0.out); rintro e w8 ⟨v195, rfl, ho0, hb⟩; refine ⟨_, rfl, ?_⟩; have n0_ := Aside0.mk (Kd.R_lower ho0 (below_size (by repeat (first | (with_reducible first | exact HB.out | apply below_alloc | apply pw_below_drewN | apply below_drew1) | exact HB.out)))); have n1_ := Aside0.mk (below_step (by repeat (first | (with_reducible first | exact HB.out | apply below_alloc | apply pw_below_drewN | apply below_drew1) | exact HB.out)) hb); clear HB; have HO196 := n0_; have HB := n1_; clear n0_ n1_; (try clear hb); (try clear hb2); (try clear hk); (try clear hi); (try clear ho0); obtain ⟨Ao9, co9, eo9⟩ := Kd.R_slice HO196.out; subst eo9))
      go_loopg [5, 6] k (fun kq v5 v6 w' => ∃ (x5_1 : Bool) (x6_1 : Int), v5 = .bool x5_1 ∧ v6 = .int .i64 x6_1 ∧ Aside0 (pantrylaw17_StatusKeeps.l0 kq l0 t193 t194 x5_1 x6_1 = some r) ∧ Aside0 (kq ≤ k) ∧ Aside0 (Kd.R (Kd.int .i64) 23 w' w.heap.size (fun _ => True) (.slice Ao9 t194.length co9) t194) ∧ Aside0 (Below w.heap.size w w'))
      case atStart => exact ⟨(false), (0), (by first | rfl | (simp; done) | (simp [*]; done)), (by first | rfl | (simp; done) | (simp [*]; done)), H', ⟨Nat.le_refl _⟩, ⟨by (with_reducible repeat (first | apply Kd.R_alloc | apply Kd.R_drewN | apply Kd.R_drew)); exact HO196.out⟩, ⟨by repeat (first | (with_reducible first | exact HB.out | apply below_alloc | apply pw_below_drewN | apply below_drew1) | exact HB.out)⟩⟩
      case round =>
        clear H'
        try clear c2
        try clear p2
        try clear c3
        try clear c3b0
        try clear c3b1
        try clear c5
        try clear c6
        try clear c6b0
        try clear c6b1
        try clear c6b2
        try clear c8
        obtain ⟨x5_1, x6_1, rfl, rfl, HA, HK1, HO_4, HB⟩ := hrel
        cases gk with
        | zero => exact absurd HA.out (by simp [pantrylaw17_StatusKeeps.l0])
        | succ k1 =>
          have H := HA.out
          clear HA
          simp only [pantrylaw17_StatusKeeps.l0] at H
          by_cases c10 : x6_1 < (l0.length : Int)
          · rw [if_pos c10] at H
            have c10b0 : decide (x6_1 < (l0.length : Int)) = true := decide_eq_true c10
            clear c10
            by_cases c11 : 0 ≤ x6_1
            · rw [if_pos c11] at H
              have c11b0 : decide (0 ≤ x6_1) = true := decide_eq_true c11
              clear c11
              have HC12 := Aside0.mk H
              clear H
              have p197 : 0 ≤ (x6_1 : Int) := of_decide_eq_true (by first | (with_reducible assumption) | assumption)
              have q197 : x6_1 < (l0.length : Int) := of_decide_eq_true (by first | (with_reducible assumption) | assumption)
              obtain ⟨ad197, e197, hx197_0⟩ := Kd.at_int HR0.out x6_1 p197 q197
              cases e197
              replace hx197_0 := (HB.out.cell (World.block_lt_of_cell? w _ hx197_0)).trans hx197_0
              replace p197 := eq_true p197
              replace q197 := eq_true q197
              go_upto_if 29 with (fail)
              go_cut [5] (fun v5 wc => ∃ (kq : Nat) (x5_11 : Bool), v5 = .bool x5_11 ∧ Aside0 (pantrylaw17_StatusKeeps.j1 kq l0 t193 t194 x5_11 x6_1 = some r) ∧ Aside0 (kq ≤ k1) ∧ Aside0 (Kd.R (Kd.int .i64) 23 wc w.heap.size (fun _ => True) (.slice Ao9 t194.length co9) t194) ∧ Aside0 (Below w.heap.size w wc))
              case first =>
                have H := HC12.out
                clear HC12
                by_cases c13 : (rd l0 x6_1) = 0
                · rw [if_pos c13] at H
                  have c13b0 : ((rd l0 x6_1) == 0) = true := beq_iff_eq.mpr c13
                  have c13b1 : ((rd l0 x6_1) != 0) = false := bne_eq_false_iff_eq.mpr c13
                  clear c13
                  (first | rw [c13b0] | (simp only [i64_w, i32_w]; rw [c13b0]) | skip)
                  have H' := Aside0.mk H
                  clear H
                  go_wp2
                  go_meet
                  case rel => exact ⟨_, (true), (by first | rfl | (simp; done) | (simp [*]; done)), H', ⟨by have := HK1.out; first | omega | exact Nat.le_refl _⟩, ⟨by (with_reducible repeat (first | apply Kd.R_alloc | apply Kd.R_drewN | apply Kd.R_drew)); exact HO_4.out⟩, ⟨by repeat (first | (with_reducible first | exact HB.out | apply below_alloc | apply pw_below_drewN | apply below_drew1) | exact HB.out)⟩⟩
                · rw [if_neg c13] at H
                  have c13b0 : ((rd l0 x6_1) == 0) = false := beq_eq_false_iff_ne.mpr c13
                  have c13b1 : ((rd l0 x6_1) != 0) = true := bne_iff_ne.mpr c13
                  (first | rw [c13b0] | (simp only [i64_w, i32_w]; rw [c13b0]) | skip)
                  have H' := Aside0.mk H
                  clear H
                  go_wp2
                  go_meet
                  case rel => exact ⟨_, (x5_1), (by first | rfl | (simp; done) | (simp [*]; done)), H', ⟨by have := HK1.out; first | omega | exact Nat.le_refl _⟩, ⟨by (with_reducible repeat (first | apply Kd.R_alloc | apply Kd.R_drewN | apply Kd.R_drew)); exact HO_4.out⟩, ⟨by repeat (first | (with_reducible first | exact HB.out | apply below_alloc | apply pw_below_drewN | apply below_drew1) | exact HB.out)⟩⟩
              case rest =>
                clear HC12
                try clear c1
                try clear p1
                try clear q1
                try clear hx1
                try clear c2
                try clear p2
                try clear c3
                try clear c3b0
                try clear c3b1
                try clear c5
                try clear c6
                try clear c6b0
                try clear c6b1
                try clear c6b2
                try clear c8
                try clear c10
                try clear c10b0
                try clear c11
                try clear c11b0
                try clear c13
                try clear c13b0
                try clear c13b1
                try clear hx197_0
                try clear p197
                try clear p2
                try clear q197
                obtain ⟨kq, x5_11, rfl, HA, HJ11, HO_4, HB⟩ := hcut
                cases kq with
                | zero => exact absurd HA.out (by simp [pantrylaw17_StatusKeeps.j1])
                | succ kj11 =>
                  have H := HA.out
                  clear HA
                  simp only [pantrylaw17_StatusKeeps.j1] at H
                  by_cases c14 : 0 ≤ x6_1
                  · rw [if_pos c14] at H
                    have c14b0 : decide (0 ≤ x6_1) = true := decide_eq_true c14
                    clear c14
                    by_cases c15 : x6_1 < (l0.length : Int)
                    · rw [if_pos c15] at H
                      have c15b0 : decide (x6_1 < (l0.length : Int)) = true := decide_eq_true c15
                      clear c15
                      have HC16 := Aside0.mk H
                      clear H
                      have p198 : 0 ≤ (x6_1 : Int) := of_decide_eq_true (by first | (with_reducible assumption) | assumption)
                      have q198 : x6_1 < (l0.length : Int) := of_decide_eq_true (by first | (with_reducible assumption) | assumption)
                      obtain ⟨ad198, e198, hx198_0⟩ := Kd.at_int HR0.out x6_1 p198 q198
                      obtain rfl : ad197 = ad198 := (by injection e198)
                      replace hx198_0 := (HB.out.cell (World.block_lt_of_cell? w _ hx198_0)).trans hx198_0
                      replace p198 := eq_true p198
                      replace q198 := eq_true q198
                      go_upto_if 34 with (fail)
                      go_cut [5] (fun v5 wc => ∃ (kq : Nat) (x5_15 : Bool), v5 = .bool x5_15 ∧ Aside0 (pantrylaw17_StatusKeeps.j2 kq l0 t193 t194 x5_15 x6_1 = some r) ∧ Aside0 (kq ≤ kj11) ∧ Aside0 (Kd.R (Kd.int .i64) 23 wc w.heap.size (fun _ => True) (.slice Ao9 t194.length co9) t194) ∧ Aside0 (Below w.heap.size w wc))
                      case first =>
                        have H := HC16.out
                        clear HC16
                        by_cases c17 : (rd l0 x6_1) = 1
                        · rw [if_pos c17] at H
                          have c17b0 : ((rd l0 x6_1) == 1) = true := beq_iff_eq.mpr c17
                          have c17b1 : ((rd l0 x6_1) != 1) = false := bne_eq_false_iff_eq.mpr c17
                          clear c17
                          (first | rw [c17b0] | (simp only [i64_w, i32_w]; rw [c17b0]) | skip)
                          have H' := Aside0.mk H
                          clear H
                          go_wp2
                          go_meet
                          case rel => exact ⟨_, (false), (by first | rfl | (simp; done) | (simp [*]; done)), H', ⟨by have := HK1.out; have := HJ11.out; first | omega | exact Nat.le_refl _⟩, ⟨by (with_reducible repeat (first | apply Kd.R_alloc | apply Kd.R_drewN | apply Kd.R_drew)); exact HO_4.out⟩, ⟨by repeat (first | (with_reducible first | exact HB.out | apply below_alloc | apply pw_below_drewN | apply below_drew1) | exact HB.out)⟩⟩
                        · rw [if_neg c17] at H
                          have c17b0 : ((rd l0 x6_1) == 1) = false := beq_eq_false_iff_ne.mpr c17
                          have c17b1 : ((rd l0 x6_1) != 1) = true := bne_iff_ne.mpr c17
                          (first | rw [c17b0] | (simp only [i64_w, i32_w]; rw [c17b0]) | skip)
                          have H' := Aside0.mk H
                          clear H
                          go_wp2
                          go_meet
                          case rel => exact ⟨_, (x5_11), (by first | rfl | (simp; done) | (simp [*]; done)), H', ⟨by have := HK1.out; have := HJ11.out; first | omega | exact Nat.le_refl _⟩, ⟨by (with_reducible repeat (first | apply Kd.R_alloc | apply Kd.R_drewN | apply Kd.R_drew)); exact HO_4.out⟩, ⟨by repeat (first | (with_reducible first | exact HB.out | apply below_alloc | apply pw_below_drewN | apply below_drew1) | exact HB.out)⟩⟩
                      case rest =>
                        clear HC16
                        try clear c1
                        try clear p1
                        try clear q1
                        try clear hx1
                        try clear c2
                        try clear p2
                        try clear c3
                        try clear c3b0
                        try clear c3b1
                        try clear c5
                        try clear c6
                        try clear c6b0
                        try clear c6b1
                        try clear c6b2
                        try clear c8
                        try clear c10
                        try clear c10b0
                        try clear c11
                        try clear c11b0
                        try clear c13
                        try clear c13b0
                        try clear c13b1
                        try clear c14
                        try clear c14b0
                        try clear c15
                        try clear c15b0
                        try clear c17
                        try clear c17b0
                        try clear c17b1
                        try clear hx197_0
                        try clear hx198_0
                        try clear p1
                        try clear p197
                        try clear p198
                        try clear p2
                        try clear q1
                        try clear q197
                        try clear q198
                        obtain ⟨kq, x5_15, rfl, HA, HJ15, HO_4, HB⟩ := hcut
                        cases kq with
                        | zero => exact absurd HA.out (by simp [pantrylaw17_StatusKeeps.j2])
                        | succ kj15 =>
                          have H := HA.out
                          clear HA
                          simp only [pantrylaw17_StatusKeeps.j2] at H
                          by_cases c18 : x5_15 = true
                          · subst c18
                            have H1 : (if 0 ≤ x6_1 then (if x6_1 < (t194.length : Int) then (if (rd t194 x6_1) = 1 then (if x6_1 < (l0.length : Int) then (if (rd l0 x6_1) = 2 then ((status_Busy.f (rd t194 x6_1)).bind fun t203 => (if t203 = true then (if (rd l0 x6_1) = 1 then (pantrylaw17_StatusKeeps.l0 kj15 l0 t193 t194 true (wrap64 (x6_1 + 1))) else (if x6_1 = 0 then (some false) else (if 0 ≤ (wrap64 (x6_1 - 1)) then (if (wrap64 (x6_1 - 1)) < (t194.length : Int) then ((status_Busy.f (rd t194 (wrap64 (x6_1 - 1)))).bind fun t206 => (if t206 = true then (pantrylaw17_StatusKeeps.l0 kj15 l0 t193 t194 true (wrap64 (x6_1 + 1))) else (some false))) else (none)) else (none)))) else (pantrylaw17_StatusKeeps.l0 kj15 l0 t193 t194 true (wrap64 (x6_1 + 1))))) else ((status_Busy.f (rd t194 x6_1)).bind fun t208 => (if t208 = true then (if (rd l0 x6_1) = 1 then (pantrylaw17_StatusKeeps.l0 kj15 l0 t193 t194 true (wrap64 (x6_1 + 1))) else (if x6_1 = 0 then (some false) else (if 0 ≤ (wrap64 (x6_1 - 1)) then (if (wrap64 (x6_1 - 1)) < (t194.length : Int) then ((status_Busy.f (rd t194 (wrap64 (x6_1 - 1)))).bind fun t211 => (if t211 = true then (pantrylaw17_StatusKeeps.l0 kj15 l0 t193 t194 true (wrap64 (x6_1 + 1))) else (some false))) else (none)) else (none)))) else (pantrylaw17_StatusKeeps.l0 kj15 l0 t193 t194 true (wrap64 (x6_1 + 1)))))) else (none)) else (if (rd t194 x6_1) = 3 then (if x6_1 < (l0.length : Int) then (if (rd l0 x6_1) = 2 then (some false) else ((status_Busy.f (rd t194 x6_1)).bind fun t216 => (if t216 = true then (if (rd l0 x6_1) = 1 then (pantrylaw17_StatusKeeps.l0 kj15 l0 t193 t194 true (wrap64 (x6_1 + 1))) else (if x6_1 = 0 then (some false) else (if 0 ≤ (wrap64 (x6_1 - 1)) then (if (wrap64 (x6_1 - 1)) < (t194.length : Int) then ((status_Busy.f (rd t194 (wrap64 (x6_1 - 1)))).bind fun t219 => (if t219 = true then (pantrylaw17_StatusKeeps.l0 kj15 l0 t193 t194 true (wrap64 (x6_1 + 1))) else (some false))) else (none)) else (none)))) else (pantrylaw17_StatusKeeps.l0 kj15 l0 t193 t194 true (wrap64 (x6_1 + 1)))))) else (none)) else (some false))) else (none)) else (none)) = some r := by rw [if_pos rfl] at H; exact H
                            clear H
                            have H := H1
                            clear H1
                            by_cases c19 : 0 ≤ x6_1
                            · rw [if_pos c19] at H
                              have c19b0 : decide (0 ≤ x6_1) = true := decide_eq_true c19
                              clear c19
                              by_cases c20 : x6_1 < (t194.length : Int)
                              · rw [if_pos c20] at H
                                have c20b0 : decide (x6_1 < (t194.length : Int)) = true := decide_eq_true c20
                                clear c20
                                by_cases c21 : (rd t194 x6_1) = 1
                                · rw [if_pos c21] at H
                                  have c21b0 : ((rd t194 x6_1) == 1) = true := beq_iff_eq.mpr c21
                                  have c21b1 : ((rd t194 x6_1) != 1) = false := bne_eq_false_iff_eq.mpr c21
                                  clear c21
                                  by_cases c22 : x6_1 < (l0.length : Int)
                                  · rw [if_pos c22] at H
                                    have c22b0 : decide (x6_1 < (l0.length : Int)) = true := decide_eq_true c22
                                    clear c22
                                    by_cases c23 : (rd l0 x6_1) = 2
                                    · rw [if_pos c23] at H
                                      have c23b0 : ((rd l0 x6_1) == 2) = true := beq_iff_eq.mpr c23
                                      have c23b1 : ((rd l0 x6_1) != 2) = false := bne_eq_false_iff_eq.mpr c23
                                      clear c23
                                      replace H := Option.bind_eq_some_iff.mp H
                                      obtain ⟨t203, A240, H⟩ := H
                                      replace H : (if t203 = true then (if (rd l0 x6_1) = 1 then (pantrylaw17_StatusKeeps.l0 kj15 l0 t193 t194 true (wrap64 (x6_1 + 1))) else (if x6_1 = 0 then (some false) else (if 0 ≤ (wrap64 (x6_1 - 1)) then (if (wrap64 (x6_1 - 1)) < (t194.length : Int) then ((status_Busy.f (rd t194 (wrap64 (x6_1 - 1)))).bind fun t206 => (if t206 = true then (pantrylaw17_StatusKeeps.l0 kj15 l0 t193 t194 true (wrap64 (x6_1 + 1))) else (some false))) else (none)) else (none)))) else (pantrylaw17_StatusKeeps.l0 kj15 l0 t193 t194 true (wrap64 (x6_1 + 1)))) = some r := H
                                      have A24 := Aside0.mk A240
                                      clear A240
                                      by_cases c25 : t203 = true
                                      · subst c25
                                        have H1 : (if (rd l0 x6_1) = 1 then (pantrylaw17_StatusKeeps.l0 kj15 l0 t193 t194 true (wrap64 (x6_1 + 1))) else (if x6_1 = 0 then (some false) else (if 0 ≤ (wrap64 (x6_1 - 1)) then (if (wrap64 (x6_1 - 1)) < (t194.length : Int) then ((status_Busy.f (rd t194 (wrap64 (x6_1 - 1)))).bind fun t206 => (if t206 = true then (pantrylaw17_StatusKeeps.l0 kj15 l0 t193 t194 true (wrap64 (x6_1 + 1))) else (some false))) else (none)) else (none)))) = some r := by rw [if_pos rfl] at H; exact H
                                        clear H
                                        have H := H1
                                        clear H1
                                        by_cases c26 : (rd l0 x6_1) = 1
                                        · rw [if_pos c26] at H
                                          have c26b0 : ((rd l0 x6_1) == 1) = true := beq_iff_eq.mpr c26
                                          have c26b1 : ((rd l0 x6_1) != 1) = false := bne_eq_false_iff_eq.mpr c26
                                          clear c26
                                          have H' := Aside0.mk H
                                          clear H
                                          have p199 : 0 ≤ (x6_1 : Int) := of_decide_eq_true (by first | (with_reducible assumption) | assumption)
                                          have q199 : x6_1 < (t194.length : Int) := of_decide_eq_true (by first | (with_reducible assumption) | assumption)
                                          obtain ⟨ad199, e199, hx199_0⟩ := Kd.at_int (Kd.R_reads' HO_4.out).2.2 x6_1 p199 q199
                                          cases e199
                                          replace p199 := eq_true p199
                                          replace q199 := eq_true q199
                                          have p200 : 0 ≤ (x6_1 : Int) := of_decide_eq_true (by first | (with_reducible assumption) | assumption)
                                          have q200 : x6_1 < (l0.length : Int) := of_decide_eq_true (by first | (with_reducible assumption) | assumption)
                                          obtain ⟨ad200, e200, hx200_0⟩ := Kd.at_int HR0.out x6_1 p200 q200
                                          obtain rfl : ad197 = ad200 := (by injection e200)
                                          replace hx200_0 := (HB.out.cell (World.block_lt_of_cell? w _ hx200_0)).trans hx200_0
                                          replace p200 := eq_true p200
                                          replace q200 := eq_true q200
                                          have p201 : 0 ≤ (x6_1 : Int) := of_decide_eq_true (by first | (with_reducible assumption) | assumption)
                                          have q201 : x6_1 < (t194.length : Int) := of_decide_eq_true (by first | (with_reducible assumption) | assumption)
                                          obtain ⟨ad201, e201, hx201_0⟩ := Kd.at_int (Kd.R_reads' HO_4.out).2.2 x6_1 p201 q201
                                          obtain rfl : ad199 = ad201 := (by injection e201)
                                          replace p201 := eq_true p201
                                          replace q201 := eq_true q201
                                          have p202 : 0 ≤ (x6_1 : Int) := of_decide_eq_true (by first | (with_reducible assumption) | assumption)
                                          have q202 : x6_1 < (t194.length : Int) := of_decide_eq_true (by first | (with_reducible assumption) | assumption)
                                          obtain ⟨ad202, e202, hx202_0⟩ := Kd.at_int (Kd.R_reads' HO_4.out).2.2 x6_1 p202 q202
                                          obtain rfl : ad199 = ad202 := (by injection e202)
                                          replace p202 := eq_true p202
                                          replace q202 := eq_true q202
                                          go_wp2_with (first | (go_at_call 17; (with_reducible refine (status_Busy.calls (rd t194 x6_1) true _ A24.out).mono ?_); rintro e w' ⟨rfl, ⟨nd, rfl⟩⟩; have p204 : 0 ≤ (x6_1 : Int) := of_decide_eq_true (by first | (with_reducible assumption) | assumption); have q204 : x6_1 < (l0.length : Int) := of_decide_eq_true (by first | (with_reducible assumption) | assumption); obtain ⟨ad204, e204, hx204_0⟩ := Kd.at_int HR0.out x6_1 p204 q204; obtain rfl : ad197 = ad204 := (by injection e204); replace hx204_0 := (HB.out.cell (World.block_lt_of_cell? w _ hx204_0)).trans hx204_0; replace p204 := eq_true p204; replace q204 := eq_true q204))
                                          go_roundg kj15
                                          case measure => have := HK1.out; have := HJ11.out; have := HJ15.out; omega
                                          case rel => exact ⟨(true), (wrap64 (x6_1 + 1)), (by first | rfl | (simp; done) | (simp [*]; done)), (by first | rfl | (simp; done) | (simp [*]; done)), H', ⟨by have := HK1.out; have := HJ11.out; have := HJ15.out; omega⟩, ⟨by (with_reducible repeat (first | apply Kd.R_alloc | apply Kd.R_drewN | apply Kd.R_drew)); exact HO_4.out⟩, ⟨by repeat (first | (with_reducible first | exact HB.out | apply below_alloc | apply pw_below_drewN | apply below_drew1) | exact HB.out)⟩⟩
                                        · rw [if_neg c26] at H
                                          have c26b0 : ((rd l0 x6_1) == 1) = false := beq_eq_false_iff_ne.mpr c26
                                          have c26b1 : ((rd l0 x6_1) != 1) = true := bne_iff_ne.mpr c26
                                          by_cases c27 : x6_1 = 0
                                          · rw [if_pos c27] at H
                                            have c27b0 : (x6_1 == 0) = true := beq_iff_eq.mpr c27
                                            have c27b1 : (x6_1 != 0) = false := bne_eq_false_iff_eq.mpr c27
                                            clear c27
                                            obtain rfl := Option.some.inj H
                                            have p199 : 0 ≤ (x6_1 : Int) := of_decide_eq_true (by first | (with_reducible assumption) | assumption)
                                            have q199 : x6_1 < (t194.length : Int) := of_decide_eq_true (by first | (with_reducible assumption) | assumption)
                                            obtain ⟨ad199, e199, hx199_0⟩ := Kd.at_int (Kd.R_reads' HO_4.out).2.2 x6_1 p199 q199
                                            cases e199
                                            replace p199 := eq_true p199
                                            replace q199 := eq_true q199
                                            have p200 : 0 ≤ (x6_1 : Int) := of_decide_eq_true (by first | (with_reducible assumption) | assumption)
                                            have q200 : x6_1 < (l0.length : Int) := of_decide_eq_true (by first | (with_reducible assumption) | assumption)
                                            obtain ⟨ad200, e200, hx200_0⟩ := Kd.at_int HR0.out x6_1 p200 q200
                                            obtain rfl : ad197 = ad200 := (by injection e200)
                                            replace hx200_0 := (HB.out.cell (World.block_lt_of_cell? w _ hx200_0)).trans hx200_0
                                            replace p200 := eq_true p200
                                            replace q200 := eq_true q200
                                            have p201 : 0 ≤ (x6_1 : Int) := of_decide_eq_true (by first | (with_reducible assumption) | assumption)
                                            have q201 : x6_1 < (t194.length : Int) := of_decide_eq_true (by first | (with_reducible assumption) | assumption)
                                            obtain ⟨ad201, e201, hx201_0⟩ := Kd.at_int (Kd.R_reads' HO_4.out).2.2 x6_1 p201 q201
                                            obtain rfl : ad199 = ad201 := (by injection e201)
                                            replace p201 := eq_true p201
                                            replace q201 := eq_true q201
                                            have p202 : 0 ≤ (x6_1 : Int) := of_decide_eq_true (by first | (with_reducible assumption) | assumption)
                                            have q202 : x6_1 < (t194.length : Int) := of_decide_eq_true (by first | (with_reducible assumption) | assumption)
                                            obtain ⟨ad202, e202, hx202_0⟩ := Kd.at_int (Kd.R_reads' HO_4.out).2.2 x6_1 p202 q202
                                            obtain rfl : ad199 = ad202 := (by injection e202)
                                            replace p202 := eq_true p202
                                            replace q202 := eq_true q202
                                            go_wp2_with (first | (go_at_call 17; (with_reducible refine (status_Busy.calls (rd t194 x6_1) true _ A24.out).mono ?_); rintro e w' ⟨rfl, ⟨nd, rfl⟩⟩; have p204 : 0 ≤ (x6_1 : Int) := of_decide_eq_true (by first | (with_reducible assumption) | assumption); have q204 : x6_1 < (l0.length : Int) := of_decide_eq_true (by first | (with_reducible assumption) | assumption); obtain ⟨ad204, e204, hx204_0⟩ := Kd.at_int HR0.out x6_1 p204 q204; obtain rfl : ad197 = ad204 := (by injection e204); replace hx204_0 := (HB.out.cell (World.block_lt_of_cell? w _ hx204_0)).trans hx204_0; replace p204 := eq_true p204; replace q204 := eq_true q204))
                                            go_ret
                                            exact ⟨by first | rfl | (simp [errW_none, errW_some] <;> rfl) | (simp [*, errW_none, errW_some] <;> rfl), by repeat (first | (with_reducible first | exact HB.out | apply below_alloc | apply pw_below_drewN | apply below_drew1) | exact HB.out)⟩
                                          · rw [if_neg c27] at H
                                            have c27b0 : (x6_1 == 0) = false := beq_eq_false_iff_ne.mpr c27
                                            have c27b1 : (x6_1 != 0) = true := bne_iff_ne.mpr c27
                                            obtain ⟨ji28, hji28⟩ : ∃ j_ : Int, (wrap64 (x6_1 - 1)) = j_ := ⟨_, rfl⟩
                                            replace H : (if 0 ≤ (ji28) then (if (ji28) < (t194.length : Int) then ((status_Busy.f (rd t194 (ji28))).bind fun t206 => (if t206 = true then (pantrylaw17_StatusKeeps.l0 kj15 l0 t193 t194 true (wrap64 (x6_1 + 1))) else (some false))) else (none)) else (none)) = some r := by first | (rw [hji28] at H; exact H) | (simp only [hji28] at H ⊢; exact H)
                                            (try rw [hji28] at A24)
                                            have hji28w : (IntKind.i64.wrap (x6_1 - 1)) = ji28 := (i64_w _).trans hji28
                                            by_cases c29 : 0 ≤ (ji28)
                                            · rw [if_pos c29] at H
                                              have c29b0 : decide (0 ≤ (ji28)) = true := decide_eq_true c29
                                              clear c29
                                              by_cases c30 : (ji28) < (t194.length : Int)
                                              · rw [if_pos c30] at H
                                                have c30b0 : decide ((ji28) < (t194.length : Int)) = true := decide_eq_true c30
                                                clear c30
                                                replace H := Option.bind_eq_some_iff.mp H
                                                obtain ⟨t206, A310, H⟩ := H
                                                replace H : (if t206 = true then (pantrylaw17_StatusKeeps.l0 kj15 l0 t193 t194 true (wrap64 (x6_1 + 1))) else (some false)) = some r := H
                                                have A31 := Aside0.mk A310
                                                clear A310
                                                by_cases c32 : t206 = true
                                                · subst c32
                                                  have H1 : (pantrylaw17_StatusKeeps.l0 kj15 l0 t193 t194 true (wrap64 (x6_1 + 1))) = some r := by rw [if_pos rfl] at H; exact H
                                                  clear H
                                                  have H := H1
                                                  clear H1
                                                  have H' := Aside0.mk H
                                                  clear H
                                                  have p199 : 0 ≤ (x6_1 : Int) := of_decide_eq_true (by first | (with_reducible assumption) | assumption)
                                                  have q199 : x6_1 < (t194.length : Int) := of_decide_eq_true (by first | (with_reducible assumption) | assumption)
                                                  obtain ⟨ad199, e199, hx199_0⟩ := Kd.at_int (Kd.R_reads' HO_4.out).2.2 x6_1 p199 q199
                                                  cases e199
                                                  replace p199 := eq_true p199
                                                  replace q199 := eq_true q199
                                                  have p200 : 0 ≤ (x6_1 : Int) := of_decide_eq_true (by first | (with_reducible assumption) | assumption)
                                                  have q200 : x6_1 < (l0.length : Int) := of_decide_eq_true (by first | (with_reducible assumption) | assumption)
                                                  obtain ⟨ad200, e200, hx200_0⟩ := Kd.at_int HR0.out x6_1 p200 q200
                                                  obtain rfl : ad197 = ad200 := (by injection e200)
                                                  replace hx200_0 := (HB.out.cell (World.block_lt_of_cell? w _ hx200_0)).trans hx200_0
                                                  replace p200 := eq_true p200
                                                  replace q200 := eq_true q200
                                                  have p201 : 0 ≤ (x6_1 : Int) := of_decide_eq_true (by first | (with_reducible assumption) | assumption)
                                                  have q201 : x6_1 < (t194.length : Int) := of_decide_eq_true (by first | (with_reducible assumption) | assumption)
                                                  obtain ⟨ad201, e201, hx201_0⟩ := Kd.at_int (Kd.R_reads' HO_4.out).2.2 x6_1 p201 q201
                                                  obtain rfl : ad199 = ad201 := (by injection e201)
                                                  replace p201 := eq_true p201
                                                  replace q201 := eq_true q201
                                                  have p202 : 0 ≤ (x6_1 : Int) := of_decide_eq_true (by first | (with_reducible assumption) | assumption)
                                                  have q202 : x6_1 < (t194.length : Int) := of_decide_eq_true (by first | (with_reducible assumption) | assumption)
                                                  obtain ⟨ad202, e202, hx202_0⟩ := Kd.at_int (Kd.R_reads' HO_4.out).2.2 x6_1 p202 q202
                                                  obtain rfl : ad199 = ad202 := (by injection e202)
                                                  replace p202 := eq_true p202
                                                  replace q202 := eq_true q202
                                                  go_wp2_with (first | (go_at_call 17; (with_reducible refine (status_Busy.calls (rd t194 x6_1) true _ A24.out).mono ?_); rintro e w' ⟨rfl, ⟨nd, rfl⟩⟩; have p204 : 0 ≤ (x6_1 : Int) := of_decide_eq_true (by first | (with_reducible assumption) | assumption); have q204 : x6_1 < (l0.length : Int) := of_decide_eq_true (by first | (with_reducible assumption) | assumption); obtain ⟨ad204, e204, hx204_0⟩ := Kd.at_int HR0.out x6_1 p204 q204; obtain rfl : ad197 = ad204 := (by injection e204); replace hx204_0 := (HB.out.cell (World.block_lt_of_cell? w _ hx204_0)).trans hx204_0; replace p204 := eq_true p204; replace q204 := eq_true q204; have p205 : 0 ≤ ((ji28) : Int) := of_decide_eq_true (by first | (with_reducible assumption) | assumption); have q205 : (ji28) < (t194.length : Int) := of_decide_eq_true (by first | (with_reducible assumption) | assumption); obtain ⟨ad205, e205, hx205_0⟩ := Kd.at_int (Kd.R_reads' HO_4.out).2.2 (ji28) p205 q205; obtain rfl : ad199 = ad205 := (by injection e205); replace p205 := eq_true p205; replace q205 := eq_true q205) | (go_at_call 17; (with_reducible refine (status_Busy.calls (rd t194 (ji28)) true _ A31.out).mono ?_); rintro e w' ⟨rfl, ⟨nd, rfl⟩⟩))
                                                  go_roundg kj15
                                                  case measure => have := HK1.out; have := HJ11.out; have := HJ15.out; omega
                                                  case rel => exact ⟨(true), (wrap64 (x6_1 + 1)), (by first | rfl | (simp; done) | (simp [*]; done)), (by first | rfl | (simp; done) | (simp [*]; done)), H', ⟨by have := HK1.out; have := HJ11.out; have := HJ15.out; omega⟩, ⟨by (with_reducible repeat (first | apply Kd.R_alloc | apply Kd.R_drewN | apply Kd.R_drew)); exact HO_4.out⟩, ⟨by repeat (first | (with_reducible first | exact HB.out | apply below_alloc | apply pw_below_drewN | apply below_drew1) | exact HB.out)⟩⟩
                                                · replace c32 := Bool.eq_false_iff.mpr c32
                                                  subst c32
                                                  have H1 : (some false) = some r := by rw [if_neg (show ¬ (false = true) by decide)] at H; exact H
                                                  clear H
                                                  have H := H1
                                                  clear H1
                                                  obtain rfl := Option.some.inj H
                                                  have p199 : 0 ≤ (x6_1 : Int) := of_decide_eq_true (by first | (with_reducible assumption) | assumption)
                                                  have q199 : x6_1 < (t194.length : Int) := of_decide_eq_true (by first | (with_reducible assumption) | assumption)
                                                  obtain ⟨ad199, e199, hx199_0⟩ := Kd.at_int (Kd.R_reads' HO_4.out).2.2 x6_1 p199 q199
                                                  cases e199
                                                  replace p199 := eq_true p199
                                                  replace q199 := eq_true q199
                                                  have p200 : 0 ≤ (x6_1 : Int) := of_decide_eq_true (by first | (with_reducible assumption) | assumption)
                                                  have q200 : x6_1 < (l0.length : Int) := of_decide_eq_true (by first | (with_reducible assumption) | assumption)
                                                  obtain ⟨ad200, e200, hx200_0⟩ := Kd.at_int HR0.out x6_1 p200 q200
                                                  obtain rfl : ad197 = ad200 := (by injection e200)
                                                  replace hx200_0 := (HB.out.cell (World.block_lt_of_cell? w _ hx200_0)).trans hx200_0
                                                  replace p200 := eq_true p200
                                                  replace q200 := eq_true q200
                                                  have p201 : 0 ≤ (x6_1 : Int) := of_decide_eq_true (by first | (with_reducible assumption) | assumption)
                                                  have q201 : x6_1 < (t194.length : Int) := of_decide_eq_true (by first | (with_reducible assumption) | assumption)
                                                  obtain ⟨ad201, e201, hx201_0⟩ := Kd.at_int (Kd.R_reads' HO_4.out).2.2 x6_1 p201 q201
                                                  obtain rfl : ad199 = ad201 := (by injection e201)
                                                  replace p201 := eq_true p201
                                                  replace q201 := eq_true q201
                                                  have p202 : 0 ≤ (x6_1 : Int) := of_decide_eq_true (by first | (with_reducible assumption) | assumption)
                                                  have q202 : x6_1 < (t194.length : Int) := of_decide_eq_true (by first | (with_reducible assumption) | assumption)
                                                  obtain ⟨ad202, e202, hx202_0⟩ := Kd.at_int (Kd.R_reads' HO_4.out).2.2 x6_1 p202 q202
                                                  obtain rfl : ad199 = ad202 := (by injection e202)
                                                  replace p202 := eq_true p202
                                                  replace q202 := eq_true q202
                                                  go_wp2_with (first | (go_at_call 17; (with_reducible refine (status_Busy.calls (rd t194 x6_1) true _ A24.out).mono ?_); rintro e w' ⟨rfl, ⟨nd, rfl⟩⟩; have p204 : 0 ≤ (x6_1 : Int) := of_decide_eq_true (by first | (with_reducible assumption) | assumption); have q204 : x6_1 < (l0.length : Int) := of_decide_eq_true (by first | (with_reducible assumption) | assumption); obtain ⟨ad204, e204, hx204_0⟩ := Kd.at_int HR0.out x6_1 p204 q204; obtain rfl : ad197 = ad204 := (by injection e204); replace hx204_0 := (HB.out.cell (World.block_lt_of_cell? w _ hx204_0)).trans hx204_0; replace p204 := eq_true p204; replace q204 := eq_true q204; have p205 : 0 ≤ ((ji28) : Int) := of_decide_eq_true (by first | (with_reducible assumption) | assumption); have q205 : (ji28) < (t194.length : Int) := of_decide_eq_true (by first | (with_reducible assumption) | assumption); obtain ⟨ad205, e205, hx205_0⟩ := Kd.at_int (Kd.R_reads' HO_4.out).2.2 (ji28) p205 q205; obtain rfl : ad199 = ad205 := (by injection e205); replace p205 := eq_true p205; replace q205 := eq_true q205) | (go_at_call 17; (with_reducible refine (status_Busy.calls (rd t194 (ji28)) false _ A31.out).mono ?_); rintro e w' ⟨rfl, ⟨nd, rfl⟩⟩))
                                                  go_ret
                                                  exact ⟨by first | rfl | (simp [errW_none, errW_some] <;> rfl) | (simp only [← hji28]; first | rfl | (simp [errW_none, errW_some] <;> rfl)) | (simp [*, errW_none, errW_some] <;> rfl), by repeat (first | (with_reducible first | exact HB.out | apply below_alloc | apply pw_below_drewN | apply below_drew1) | exact HB.out)⟩
                                              · rw [if_neg c30] at H
                                                exact absurd H (by simp)
                                            · rw [if_neg c29] at H
                                              exact absurd H (by simp)
                                      · replace c25 := Bool.eq_false_iff.mpr c25
                                        subst c25
                                        have H1 : (pantrylaw17_StatusKeeps.l0 kj15 l0 t193 t194 true (wrap64 (x6_1 + 1))) = some r := by rw [if_neg (show ¬ (false = true) by decide)] at H; exact H
                                        clear H
                                        have H := H1
                                        clear H1
                                        have H' := Aside0.mk H
                                        clear H
                                        have p199 : 0 ≤ (x6_1 : Int) := of_decide_eq_true (by first | (with_reducible assumption) | assumption)
                                        have q199 : x6_1 < (t194.length : Int) := of_decide_eq_true (by first | (with_reducible assumption) | assumption)
                                        obtain ⟨ad199, e199, hx199_0⟩ := Kd.at_int (Kd.R_reads' HO_4.out).2.2 x6_1 p199 q199
                                        cases e199
                                        replace p199 := eq_true p199
                                        replace q199 := eq_true q199
                                        have p200 : 0 ≤ (x6_1 : Int) := of_decide_eq_true (by first | (with_reducible assumption) | assumption)
                                        have q200 : x6_1 < (l0.length : Int) := of_decide_eq_true (by first | (with_reducible assumption) | assumption)
                                        obtain ⟨ad200, e200, hx200_0⟩ := Kd.at_int HR0.out x6_1 p200 q200
                                        obtain rfl : ad197 = ad200 := (by injection e200)
                                        replace hx200_0 := (HB.out.cell (World.block_lt_of_cell? w _ hx200_0)).trans hx200_0
                                        replace p200 := eq_true p200
                                        replace q200 := eq_true q200
                                        have p201 : 0 ≤ (x6_1 : Int) := of_decide_eq_true (by first | (with_reducible assumption) | assumption)
                                        have q201 : x6_1 < (t194.length : Int) := of_decide_eq_true (by first | (with_reducible assumption) | assumption)
                                        obtain ⟨ad201, e201, hx201_0⟩ := Kd.at_int (Kd.R_reads' HO_4.out).2.2 x6_1 p201 q201
                                        obtain rfl : ad199 = ad201 := (by injection e201)
                                        replace p201 := eq_true p201
                                        replace q201 := eq_true q201
                                        have p202 : 0 ≤ (x6_1 : Int) := of_decide_eq_true (by first | (with_reducible assumption) | assumption)
                                        have q202 : x6_1 < (t194.length : Int) := of_decide_eq_true (by first | (with_reducible assumption) | assumption)
                                        obtain ⟨ad202, e202, hx202_0⟩ := Kd.at_int (Kd.R_reads' HO_4.out).2.2 x6_1 p202 q202
                                        obtain rfl : ad199 = ad202 := (by injection e202)
                                        replace p202 := eq_true p202
                                        replace q202 := eq_true q202
                                        go_wp2_with (first | (go_at_call 17; (with_reducible refine (status_Busy.calls (rd t194 x6_1) false _ A24.out).mono ?_); rintro e w' ⟨rfl, ⟨nd, rfl⟩⟩))
                                        go_roundg kj15
                                        case measure => have := HK1.out; have := HJ11.out; have := HJ15.out; omega
                                        case rel => exact ⟨(true), (wrap64 (x6_1 + 1)), (by first | rfl | (simp; done) | (simp [*]; done)), (by first | rfl | (simp; done) | (simp [*]; done)), H', ⟨by have := HK1.out; have := HJ11.out; have := HJ15.out; omega⟩, ⟨by (with_reducible repeat (first | apply Kd.R_alloc | apply Kd.R_drewN | apply Kd.R_drew)); exact HO_4.out⟩, ⟨by repeat (first | (with_reducible first | exact HB.out | apply below_alloc | apply pw_below_drewN | apply below_drew1) | exact HB.out)⟩⟩
                                    · rw [if_neg c23] at H
                                      have c23b0 : ((rd l0 x6_1) == 2) = false := beq_eq_false_iff_ne.mpr c23
                                      have c23b1 : ((rd l0 x6_1) != 2) = true := bne_iff_ne.mpr c23
                                      replace H := Option.bind_eq_some_iff.mp H
                                      obtain ⟨t208, A330, H⟩ := H
                                      replace H : (if t208 = true then (if (rd l0 x6_1) = 1 then (pantrylaw17_StatusKeeps.l0 kj15 l0 t193 t194 true (wrap64 (x6_1 + 1))) else (if x6_1 = 0 then (some false) else (if 0 ≤ (wrap64 (x6_1 - 1)) then (if (wrap64 (x6_1 - 1)) < (t194.length : Int) then ((status_Busy.f (rd t194 (wrap64 (x6_1 - 1)))).bind fun t211 => (if t211 = true then (pantrylaw17_StatusKeeps.l0 kj15 l0 t193 t194 true (wrap64 (x6_1 + 1))) else (some false))) else (none)) else (none)))) else (pantrylaw17_StatusKeeps.l0 kj15 l0 t193 t194 true (wrap64 (x6_1 + 1)))) = some r := H
                                      have A33 := Aside0.mk A330
                                      clear A330
                                      by_cases c34 : t208 = true
                                      · subst c34
                                        have H1 : (if (rd l0 x6_1) = 1 then (pantrylaw17_StatusKeeps.l0 kj15 l0 t193 t194 true (wrap64 (x6_1 + 1))) else (if x6_1 = 0 then (some false) else (if 0 ≤ (wrap64 (x6_1 - 1)) then (if (wrap64 (x6_1 - 1)) < (t194.length : Int) then ((status_Busy.f (rd t194 (wrap64 (x6_1 - 1)))).bind fun t211 => (if t211 = true then (pantrylaw17_StatusKeeps.l0 kj15 l0 t193 t194 true (wrap64 (x6_1 + 1))) else (some false))) else (none)) else (none)))) = some r := by rw [if_pos rfl] at H; exact H
                                        clear H
                                        have H := H1
                                        clear H1
                                        by_cases c35 : (rd l0 x6_1) = 1
                                        · rw [if_pos c35] at H
                                          have c35b0 : ((rd l0 x6_1) == 1) = true := beq_iff_eq.mpr c35
                                          have c35b1 : ((rd l0 x6_1) != 1) = false := bne_eq_false_iff_eq.mpr c35
                                          clear c35
                                          have H' := Aside0.mk H
                                          clear H
                                          have p199 : 0 ≤ (x6_1 : Int) := of_decide_eq_true (by first | (with_reducible assumption) | assumption)
                                          have q199 : x6_1 < (t194.length : Int) := of_decide_eq_true (by first | (with_reducible assumption) | assumption)
                                          obtain ⟨ad199, e199, hx199_0⟩ := Kd.at_int (Kd.R_reads' HO_4.out).2.2 x6_1 p199 q199
                                          cases e199
                                          replace p199 := eq_true p199
                                          replace q199 := eq_true q199
                                          have p200 : 0 ≤ (x6_1 : Int) := of_decide_eq_true (by first | (with_reducible assumption) | assumption)
                                          have q200 : x6_1 < (l0.length : Int) := of_decide_eq_true (by first | (with_reducible assumption) | assumption)
                                          obtain ⟨ad200, e200, hx200_0⟩ := Kd.at_int HR0.out x6_1 p200 q200
                                          obtain rfl : ad197 = ad200 := (by injection e200)
                                          replace hx200_0 := (HB.out.cell (World.block_lt_of_cell? w _ hx200_0)).trans hx200_0
                                          replace p200 := eq_true p200
                                          replace q200 := eq_true q200
                                          have p207 : 0 ≤ (x6_1 : Int) := of_decide_eq_true (by first | (with_reducible assumption) | assumption)
                                          have q207 : x6_1 < (t194.length : Int) := of_decide_eq_true (by first | (with_reducible assumption) | assumption)
                                          obtain ⟨ad207, e207, hx207_0⟩ := Kd.at_int (Kd.R_reads' HO_4.out).2.2 x6_1 p207 q207
                                          obtain rfl : ad199 = ad207 := (by injection e207)
                                          replace p207 := eq_true p207
                                          replace q207 := eq_true q207
                                          go_wp2_with (first | (go_at_call 17; (with_reducible refine (status_Busy.calls (rd t194 x6_1) true _ A33.out).mono ?_); rintro e w' ⟨rfl, ⟨nd, rfl⟩⟩; have p209 : 0 ≤ (x6_1 : Int) := of_decide_eq_true (by first | (with_reducible assumption) | assumption); have q209 : x6_1 < (l0.length : Int) := of_decide_eq_true (by first | (with_reducible assumption) | assumption); obtain ⟨ad209, e209, hx209_0⟩ := Kd.at_int HR0.out x6_1 p209 q209; obtain rfl : ad197 = ad209 := (by injection e209); replace hx209_0 := (HB.out.cell (World.block_lt_of_cell? w _ hx209_0)).trans hx209_0; replace p209 := eq_true p209; replace q209 := eq_true q209))
                                          go_roundg kj15
                                          case measure => have := HK1.out; have := HJ11.out; have := HJ15.out; omega
                                          case rel => exact ⟨(true), (wrap64 (x6_1 + 1)), (by first | rfl | (simp; done) | (simp [*]; done)), (by first | rfl | (simp; done) | (simp [*]; done)), H', ⟨by have := HK1.out; have := HJ11.out; have := HJ15.out; omega⟩, ⟨by (with_reducible repeat (first | apply Kd.R_alloc | apply Kd.R_drewN | apply Kd.R_drew)); exact HO_4.out⟩, ⟨by repeat (first | (with_reducible first | exact HB.out | apply below_alloc | apply pw_below_drewN | apply below_drew1) | exact HB.out)⟩⟩
                                        · rw [if_neg c35] at H
                                          have c35b0 : ((rd l0 x6_1) == 1) = false := beq_eq_false_iff_ne.mpr c35
                                          have c35b1 : ((rd l0 x6_1) != 1) = true := bne_iff_ne.mpr c35
                                          by_cases c36 : x6_1 = 0
                                          · rw [if_pos c36] at H
                                            have c36b0 : (x6_1 == 0) = true := beq_iff_eq.mpr c36
                                            have c36b1 : (x6_1 != 0) = false := bne_eq_false_iff_eq.mpr c36
                                            clear c36
                                            obtain rfl := Option.some.inj H
                                            have p199 : 0 ≤ (x6_1 : Int) := of_decide_eq_true (by first | (with_reducible assumption) | assumption)
                                            have q199 : x6_1 < (t194.length : Int) := of_decide_eq_true (by first | (with_reducible assumption) | assumption)
                                            obtain ⟨ad199, e199, hx199_0⟩ := Kd.at_int (Kd.R_reads' HO_4.out).2.2 x6_1 p199 q199
                                            cases e199
                                            replace p199 := eq_true p199
                                            replace q199 := eq_true q199
                                            have p200 : 0 ≤ (x6_1 : Int) := of_decide_eq_true (by first | (with_reducible assumption) | assumption)
                                            have q200 : x6_1 < (l0.length : Int) := of_decide_eq_true (by first | (with_reducible assumption) | assumption)
                                            obtain ⟨ad200, e200, hx200_0⟩ := Kd.at_int HR0.out x6_1 p200 q200
                                            obtain rfl : ad197 = ad200 := (by injection e200)
                                            replace hx200_0 := (HB.out.cell (World.block_lt_of_cell? w _ hx200_0)).trans hx200_0
                                            replace p200 := eq_true p200
                                            replace q200 := eq_true q200
                                            have p207 : 0 ≤ (x6_1 : Int) := of_decide_eq_true (by first | (with_reducible assumption) | assumption)
                                            have q207 : x6_1 < (t194.length : Int) := of_decide_eq_true (by first | (with_reducible assumption) | assumption)
                                            obtain ⟨ad207, e207, hx207_0⟩ := Kd.at_int (Kd.R_reads' HO_4.out).2.2 x6_1 p207 q207
                                            obtain rfl : ad199 = ad207 := (by injection e207)
                                            replace p207 := eq_true p207
                                            replace q207 := eq_true q207
                                            go_wp2_with (first | (go_at_call 17; (with_reducible refine (status_Busy.calls (rd t194 x6_1) true _ A33.out).mono ?_); rintro e w' ⟨rfl, ⟨nd, rfl⟩⟩; have p209 : 0 ≤ (x6_1 : Int) := of_decide_eq_true (by first | (with_reducible assumption) | assumption); have q209 : x6_1 < (l0.length : Int) := of_decide_eq_true (by first | (with_reducible assumption) | assumption); obtain ⟨ad209, e209, hx209_0⟩ := Kd.at_int HR0.out x6_1 p209 q209; obtain rfl : ad197 = ad209 := (by injection e209); replace hx209_0 := (HB.out.cell (World.block_lt_of_cell? w _ hx209_0)).trans hx209_0; replace p209 := eq_true p209; replace q209 := eq_true q209))
                                            go_ret
                                            exact ⟨by first | rfl | (simp [errW_none, errW_some] <;> rfl) | (simp [*, errW_none, errW_some] <;> rfl), by repeat (first | (with_reducible first | exact HB.out | apply below_alloc | apply pw_below_drewN | apply below_drew1) | exact HB.out)⟩
                                          · rw [if_neg c36] at H
                                            have c36b0 : (x6_1 == 0) = false := beq_eq_false_iff_ne.mpr c36
                                            have c36b1 : (x6_1 != 0) = true := bne_iff_ne.mpr c36
                                            obtain ⟨ji37, hji37⟩ : ∃ j_ : Int, (wrap64 (x6_1 - 1)) = j_ := ⟨_, rfl⟩
                                            replace H : (if 0 ≤ (ji37) then (if (ji37) < (t194.length : Int) then ((status_Busy.f (rd t194 (ji37))).bind fun t211 => (if t211 = true then (pantrylaw17_StatusKeeps.l0 kj15 l0 t193 t194 true (wrap64 (x6_1 + 1))) else (some false))) else (none)) else (none)) = some r := by first | (rw [hji37] at H; exact H) | (simp only [hji37] at H ⊢; exact H)
                                            (try rw [hji37] at A33)
                                            have hji37w : (IntKind.i64.wrap (x6_1 - 1)) = ji37 := (i64_w _).trans hji37
                                            by_cases c38 : 0 ≤ (ji37)
                                            · rw [if_pos c38] at H
                                              have c38b0 : decide (0 ≤ (ji37)) = true := decide_eq_true c38
                                              clear c38
                                              by_cases c39 : (ji37) < (t194.length : Int)
                                              · rw [if_pos c39] at H
                                                have c39b0 : decide ((ji37) < (t194.length : Int)) = true := decide_eq_true c39
                                                clear c39
                                                replace H := Option.bind_eq_some_iff.mp H
                                                obtain ⟨t211, A400, H⟩ := H
                                                replace H : (if t211 = true then (pantrylaw17_StatusKeeps.l0 kj15 l0 t193 t194 true (wrap64 (x6_1 + 1))) else (some false)) = some r := H
                                                have A40 := Aside0.mk A400
                                                clear A400
                                                by_cases c41 : t211 = true
                                                · subst c41
                                                  have H1 : (pantrylaw17_StatusKeeps.l0 kj15 l0 t193 t194 true (wrap64 (x6_1 + 1))) = some r := by rw [if_pos rfl] at H; exact H
                                                  clear H
                                                  have H := H1
                                                  clear H1
                                                  have H' := Aside0.mk H
                                                  clear H
                                                  have p199 : 0 ≤ (x6_1 : Int) := of_decide_eq_true (by first | (with_reducible assumption) | assumption)
                                                  have q199 : x6_1 < (t194.length : Int) := of_decide_eq_true (by first | (with_reducible assumption) | assumption)
                                                  obtain ⟨ad199, e199, hx199_0⟩ := Kd.at_int (Kd.R_reads' HO_4.out).2.2 x6_1 p199 q199
                                                  cases e199
                                                  replace p199 := eq_true p199
                                                  replace q199 := eq_true q199
                                                  have p200 : 0 ≤ (x6_1 : Int) := of_decide_eq_true (by first | (with_reducible assumption) | assumption)
                                                  have q200 : x6_1 < (l0.length : Int) := of_decide_eq_true (by first | (with_reducible assumption) | assumption)
                                                  obtain ⟨ad200, e200, hx200_0⟩ := Kd.at_int HR0.out x6_1 p200 q200
                                                  obtain rfl : ad197 = ad200 := (by injection e200)
                                                  replace hx200_0 := (HB.out.cell (World.block_lt_of_cell? w _ hx200_0)).trans hx200_0
                                                  replace p200 := eq_true p200
                                                  replace q200 := eq_true q200
                                                  have p207 : 0 ≤ (x6_1 : Int) := of_decide_eq_true (by first | (with_reducible assumption) | assumption)
                                                  have q207 : x6_1 < (t194.length : Int) := of_decide_eq_true (by first | (with_reducible assumption) | assumption)
                                                  obtain ⟨ad207, e207, hx207_0⟩ := Kd.at_int (Kd.R_reads' HO_4.out).2.2 x6_1 p207 q207
                                                  obtain rfl : ad199 = ad207 := (by injection e207)
                                                  replace p207 := eq_true p207
                                                  replace q207 := eq_true q207
                                                  go_wp2_with (first | (go_at_call 17; (with_reducible refine (status_Busy.calls (rd t194 x6_1) true _ A33.out).mono ?_); rintro e w' ⟨rfl, ⟨nd, rfl⟩⟩; have p209 : 0 ≤ (x6_1 : Int) := of_decide_eq_true (by first | (with_reducible assumption) | assumption); have q209 : x6_1 < (l0.length : Int) := of_decide_eq_true (by first | (with_reducible assumption) | assumption); obtain ⟨ad209, e209, hx209_0⟩ := Kd.at_int HR0.out x6_1 p209 q209; obtain rfl : ad197 = ad209 := (by injection e209); replace hx209_0 := (HB.out.cell (World.block_lt_of_cell? w _ hx209_0)).trans hx209_0; replace p209 := eq_true p209; replace q209 := eq_true q209; have p210 : 0 ≤ ((ji37) : Int) := of_decide_eq_true (by first | (with_reducible assumption) | assumption); have q210 : (ji37) < (t194.length : Int) := of_decide_eq_true (by first | (with_reducible assumption) | assumption); obtain ⟨ad210, e210, hx210_0⟩ := Kd.at_int (Kd.R_reads' HO_4.out).2.2 (ji37) p210 q210; obtain rfl : ad199 = ad210 := (by injection e210); replace p210 := eq_true p210; replace q210 := eq_true q210) | (go_at_call 17; (with_reducible refine (status_Busy.calls (rd t194 (ji37)) true _ A40.out).mono ?_); rintro e w' ⟨rfl, ⟨nd, rfl⟩⟩))
                                                  go_roundg kj15
                                                  case measure => have := HK1.out; have := HJ11.out; have := HJ15.out; omega
                                                  case rel => exact ⟨(true), (wrap64 (x6_1 + 1)), (by first | rfl | (simp; done) | (simp [*]; done)), (by first | rfl | (simp; done) | (simp [*]; done)), H', ⟨by have := HK1.out; have := HJ11.out; have := HJ15.out; omega⟩, ⟨by (with_reducible repeat (first | apply Kd.R_alloc | apply Kd.R_drewN | apply Kd.R_drew)); exact HO_4.out⟩, ⟨by repeat (first | (with_reducible first | exact HB.out | apply below_alloc | apply pw_below_drewN | apply below_drew1) | exact HB.out)⟩⟩
                                                · replace c41 := Bool.eq_false_iff.mpr c41
                                                  subst c41
                                                  have H1 : (some false) = some r := by rw [if_neg (show ¬ (false = true) by decide)] at H; exact H
                                                  clear H
                                                  have H := H1
                                                  clear H1
                                                  obtain rfl := Option.some.inj H
                                                  have p199 : 0 ≤ (x6_1 : Int) := of_decide_eq_true (by first | (with_reducible assumption) | assumption)
                                                  have q199 : x6_1 < (t194.length : Int) := of_decide_eq_true (by first | (with_reducible assumption) | assumption)
                                                  obtain ⟨ad199, e199, hx199_0⟩ := Kd.at_int (Kd.R_reads' HO_4.out).2.2 x6_1 p199 q199
                                                  cases e199
                                                  replace p199 := eq_true p199
                                                  replace q199 := eq_true q199
                                                  have p200 : 0 ≤ (x6_1 : Int) := of_decide_eq_true (by first | (with_reducible assumption) | assumption)
                                                  have q200 : x6_1 < (l0.length : Int) := of_decide_eq_true (by first | (with_reducible assumption) | assumption)
                                                  obtain ⟨ad200, e200, hx200_0⟩ := Kd.at_int HR0.out x6_1 p200 q200
                                                  obtain rfl : ad197 = ad200 := (by injection e200)
                                                  replace hx200_0 := (HB.out.cell (World.block_lt_of_cell? w _ hx200_0)).trans hx200_0
                                                  replace p200 := eq_true p200
                                                  replace q200 := eq_true q200
                                                  have p207 : 0 ≤ (x6_1 : Int) := of_decide_eq_true (by first | (with_reducible assumption) | assumption)
                                                  have q207 : x6_1 < (t194.length : Int) := of_decide_eq_true (by first | (with_reducible assumption) | assumption)
                                                  obtain ⟨ad207, e207, hx207_0⟩ := Kd.at_int (Kd.R_reads' HO_4.out).2.2 x6_1 p207 q207
                                                  obtain rfl : ad199 = ad207 := (by injection e207)
                                                  replace p207 := eq_true p207
                                                  replace q207 := eq_true q207
                                                  go_wp2_with (first | (go_at_call 17; (with_reducible refine (status_Busy.calls (rd t194 x6_1) true _ A33.out).mono ?_); rintro e w' ⟨rfl, ⟨nd, rfl⟩⟩; have p209 : 0 ≤ (x6_1 : Int) := of_decide_eq_true (by first | (with_reducible assumption) | assumption); have q209 : x6_1 < (l0.length : Int) := of_decide_eq_true (by first | (with_reducible assumption) | assumption); obtain ⟨ad209, e209, hx209_0⟩ := Kd.at_int HR0.out x6_1 p209 q209; obtain rfl : ad197 = ad209 := (by injection e209); replace hx209_0 := (HB.out.cell (World.block_lt_of_cell? w _ hx209_0)).trans hx209_0; replace p209 := eq_true p209; replace q209 := eq_true q209; have p210 : 0 ≤ ((ji37) : Int) := of_decide_eq_true (by first | (with_reducible assumption) | assumption); have q210 : (ji37) < (t194.length : Int) := of_decide_eq_true (by first | (with_reducible assumption) | assumption); obtain ⟨ad210, e210, hx210_0⟩ := Kd.at_int (Kd.R_reads' HO_4.out).2.2 (ji37) p210 q210; obtain rfl : ad199 = ad210 := (by injection e210); replace p210 := eq_true p210; replace q210 := eq_true q210) | (go_at_call 17; (with_reducible refine (status_Busy.calls (rd t194 (ji37)) false _ A40.out).mono ?_); rintro e w' ⟨rfl, ⟨nd, rfl⟩⟩))
                                                  go_ret
                                                  exact ⟨by first | rfl | (simp [errW_none, errW_some] <;> rfl) | (simp only [← hji37]; first | rfl | (simp [errW_none, errW_some] <;> rfl)) | (simp [*, errW_none, errW_some] <;> rfl), by repeat (first | (with_reducible first | exact HB.out | apply below_alloc | apply pw_below_drewN | apply below_drew1) | exact HB.out)⟩
                                              · rw [if_neg c39] at H
                                                exact absurd H (by simp)
                                            · rw [if_neg c38] at H
                                              exact absurd H (by simp)
                                      · replace c34 := Bool.eq_false_iff.mpr c34
                                        subst c34
                                        have H1 : (pantrylaw17_StatusKeeps.l0 kj15 l0 t193 t194 true (wrap64 (x6_1 + 1))) = some r := by rw [if_neg (show ¬ (false = true) by decide)] at H; exact H
                                        clear H
                                        have H := H1
                                        clear H1
                                        have H' := Aside0.mk H
                                        clear H
                                        have p199 : 0 ≤ (x6_1 : Int) := of_decide_eq_true (by first | (with_reducible assumption) | assumption)
                                        have q199 : x6_1 < (t194.length : Int) := of_decide_eq_true (by first | (with_reducible assumption) | assumption)
                                        obtain ⟨ad199, e199, hx199_0⟩ := Kd.at_int (Kd.R_reads' HO_4.out).2.2 x6_1 p199 q199
                                        cases e199
                                        replace p199 := eq_true p199
                                        replace q199 := eq_true q199
                                        have p200 : 0 ≤ (x6_1 : Int) := of_decide_eq_true (by first | (with_reducible assumption) | assumption)
                                        have q200 : x6_1 < (l0.length : Int) := of_decide_eq_true (by first | (with_reducible assumption) | assumption)
                                        obtain ⟨ad200, e200, hx200_0⟩ := Kd.at_int HR0.out x6_1 p200 q200
                                        obtain rfl : ad197 = ad200 := (by injection e200)
                                        replace hx200_0 := (HB.out.cell (World.block_lt_of_cell? w _ hx200_0)).trans hx200_0
                                        replace p200 := eq_true p200
                                        replace q200 := eq_true q200
                                        have p207 : 0 ≤ (x6_1 : Int) := of_decide_eq_true (by first | (with_reducible assumption) | assumption)
                                        have q207 : x6_1 < (t194.length : Int) := of_decide_eq_true (by first | (with_reducible assumption) | assumption)
                                        obtain ⟨ad207, e207, hx207_0⟩ := Kd.at_int (Kd.R_reads' HO_4.out).2.2 x6_1 p207 q207
                                        obtain rfl : ad199 = ad207 := (by injection e207)
                                        replace p207 := eq_true p207
                                        replace q207 := eq_true q207
                                        go_wp2_with (first | (go_at_call 17; (with_reducible refine (status_Busy.calls (rd t194 x6_1) false _ A33.out).mono ?_); rintro e w' ⟨rfl, ⟨nd, rfl⟩⟩))
                                        go_roundg kj15
                                        case measure => have := HK1.out; have := HJ11.out; have := HJ15.out; omega
                                        case rel => exact ⟨(true), (wrap64 (x6_1 + 1)), (by first | rfl | (simp; done) | (simp [*]; done)), (by first | rfl | (simp; done) | (simp [*]; done)), H', ⟨by have := HK1.out; have := HJ11.out; have := HJ15.out; omega⟩, ⟨by (with_reducible repeat (first | apply Kd.R_alloc | apply Kd.R_drewN | apply Kd.R_drew)); exact HO_4.out⟩, ⟨by repeat (first | (with_reducible first | exact HB.out | apply below_alloc | apply pw_below_drewN | apply below_drew1) | exact HB.out)⟩⟩
                                  · rw [if_neg c22] at H
                                    exact absurd H (by simp)
                                · rw [if_neg c21] at H
                                  have c21b0 : ((rd t194 x6_1) == 1) = false := beq_eq_false_iff_ne.mpr c21
                                  have c21b1 : ((rd t194 x6_1) != 1) = true := bne_iff_ne.mpr c21
                                  by_cases c42 : (rd t194 x6_1) = 3
                                  · rw [if_pos c42] at H
                                    have c42b0 : ((rd t194 x6_1) == 3) = true := beq_iff_eq.mpr c42
                                    have c42b1 : ((rd t194 x6_1) != 3) = false := bne_eq_false_iff_eq.mpr c42
                                    clear c42
                                    by_cases c43 : x6_1 < (l0.length : Int)
                                    · rw [if_pos c43] at H
                                      have c43b0 : decide (x6_1 < (l0.length : Int)) = true := decide_eq_true c43
                                      clear c43
                                      by_cases c44 : (rd l0 x6_1) = 2
                                      · rw [if_pos c44] at H
                                        have c44b0 : ((rd l0 x6_1) == 2) = true := beq_iff_eq.mpr c44
                                        have c44b1 : ((rd l0 x6_1) != 2) = false := bne_eq_false_iff_eq.mpr c44
                                        clear c44
                                        obtain rfl := Option.some.inj H
                                        have p199 : 0 ≤ (x6_1 : Int) := of_decide_eq_true (by first | (with_reducible assumption) | assumption)
                                        have q199 : x6_1 < (t194.length : Int) := of_decide_eq_true (by first | (with_reducible assumption) | assumption)
                                        obtain ⟨ad199, e199, hx199_0⟩ := Kd.at_int (Kd.R_reads' HO_4.out).2.2 x6_1 p199 q199
                                        cases e199
                                        replace p199 := eq_true p199
                                        replace q199 := eq_true q199
                                        have p212 : 0 ≤ (x6_1 : Int) := of_decide_eq_true (by first | (with_reducible assumption) | assumption)
                                        have q212 : x6_1 < (t194.length : Int) := of_decide_eq_true (by first | (with_reducible assumption) | assumption)
                                        obtain ⟨ad212, e212, hx212_0⟩ := Kd.at_int (Kd.R_reads' HO_4.out).2.2 x6_1 p212 q212
                                        obtain rfl : ad199 = ad212 := (by injection e212)
                                        replace p212 := eq_true p212
                                        replace q212 := eq_true q212
                                        have p213 : 0 ≤ (x6_1 : Int) := of_decide_eq_true (by first | (with_reducible assumption) | assumption)
                                        have q213 : x6_1 < (l0.length : Int) := of_decide_eq_true (by first | (with_reducible assumption) | assumption)
                                        obtain ⟨ad213, e213, hx213_0⟩ := Kd.at_int HR0.out x6_1 p213 q213
                                        obtain rfl : ad197 = ad213 := (by injection e213)
                                        replace hx213_0 := (HB.out.cell (World.block_lt_of_cell? w _ hx213_0)).trans hx213_0
                                        replace p213 := eq_true p213
                                        replace q213 := eq_true q213
                                        have p214 : 0 ≤ (x6_1 : Int) := of_decide_eq_true (by first | (with_reducible assumption) | assumption)
                                        have q214 : x6_1 < (t194.length : Int) := of_decide_eq_true (by first | (with_reducible assumption) | assumption)
                                        obtain ⟨ad214, e214, hx214_0⟩ := Kd.at_int (Kd.R_reads' HO_4.out).2.2 x6_1 p214 q214
                                        obtain rfl : ad199 = ad214 := (by injection e214)
                                        replace p214 := eq_true p214
                                        replace q214 := eq_true q214
                                        go_wp2
                                        go_ret
                                        exact ⟨by first | rfl | (simp [errW_none, errW_some] <;> rfl) | (simp [*, errW_none, errW_some] <;> rfl), by repeat (first | (with_reducible first | exact HB.out | apply below_alloc | apply pw_below_drewN | apply below_drew1) | exact HB.out)⟩
                                      · rw [if_neg c44] at H
                                        have c44b0 : ((rd l0 x6_1) == 2) = false := beq_eq_false_iff_ne.mpr c44
                                        have c44b1 : ((rd l0 x6_1) != 2) = true := bne_iff_ne.mpr c44
                                        replace H := Option.bind_eq_some_iff.mp H
                                        obtain ⟨t216, A450, H⟩ := H
                                        replace H : (if t216 = true then (if (rd l0 x6_1) = 1 then (pantrylaw17_StatusKeeps.l0 kj15 l0 t193 t194 true (wrap64 (x6_1 + 1))) else (if x6_1 = 0 then (some false) else (if 0 ≤ (wrap64 (x6_1 - 1)) then (if (wrap64 (x6_1 - 1)) < (t194.length : Int) then ((status_Busy.f (rd t194 (wrap64 (x6_1 - 1)))).bind fun t219 => (if t219 = true then (pantrylaw17_StatusKeeps.l0 kj15 l0 t193 t194 true (wrap64 (x6_1 + 1))) else (some false))) else (none)) else (none)))) else (pantrylaw17_StatusKeeps.l0 kj15 l0 t193 t194 true (wrap64 (x6_1 + 1)))) = some r := H
                                        have A45 := Aside0.mk A450
                                        clear A450
                                        by_cases c46 : t216 = true
                                        · subst c46
                                          have H1 : (if (rd l0 x6_1) = 1 then (pantrylaw17_StatusKeeps.l0 kj15 l0 t193 t194 true (wrap64 (x6_1 + 1))) else (if x6_1 = 0 then (some false) else (if 0 ≤ (wrap64 (x6_1 - 1)) then (if (wrap64 (x6_1 - 1)) < (t194.length : Int) then ((status_Busy.f (rd t194 (wrap64 (x6_1 - 1)))).bind fun t219 => (if t219 = true then (pantrylaw17_StatusKeeps.l0 kj15 l0 t193 t194 true (wrap64 (x6_1 + 1))) else (some false))) else (none)) else (none)))) = some r := by rw [if_pos rfl] at H; exact H
                                          clear H
                                          have H := H1
                                          clear H1
                                          by_cases c47 : (rd l0 x6_1) = 1
                                          · rw [if_pos c47] at H
                                            have c47b0 : ((rd l0 x6_1) == 1) = true := beq_iff_eq.mpr c47
                                            have c47b1 : ((rd l0 x6_1) != 1) = false := bne_eq_false_iff_eq.mpr c47
                                            clear c47
                                            have H' := Aside0.mk H
                                            clear H
                                            have p199 : 0 ≤ (x6_1 : Int) := of_decide_eq_true (by first | (with_reducible assumption) | assumption)
                                            have q199 : x6_1 < (t194.length : Int) := of_decide_eq_true (by first | (with_reducible assumption) | assumption)
                                            obtain ⟨ad199, e199, hx199_0⟩ := Kd.at_int (Kd.R_reads' HO_4.out).2.2 x6_1 p199 q199
                                            cases e199
                                            replace p199 := eq_true p199
                                            replace q199 := eq_true q199
                                            have p212 : 0 ≤ (x6_1 : Int) := of_decide_eq_true (by first | (with_reducible assumption) | assumption)
                                            have q212 : x6_1 < (t194.length : Int) := of_decide_eq_true (by first | (with_reducible assumption) | assumption)
                                            obtain ⟨ad212, e212, hx212_0⟩ := Kd.at_int (Kd.R_reads' HO_4.out).2.2 x6_1 p212 q212
                                            obtain rfl : ad199 = ad212 := (by injection e212)
                                            replace p212 := eq_true p212
                                            replace q212 := eq_true q212
                                            have p213 : 0 ≤ (x6_1 : Int) := of_decide_eq_true (by first | (with_reducible assumption) | assumption)
                                            have q213 : x6_1 < (l0.length : Int) := of_decide_eq_true (by first | (with_reducible assumption) | assumption)
                                            obtain ⟨ad213, e213, hx213_0⟩ := Kd.at_int HR0.out x6_1 p213 q213
                                            obtain rfl : ad197 = ad213 := (by injection e213)
                                            replace hx213_0 := (HB.out.cell (World.block_lt_of_cell? w _ hx213_0)).trans hx213_0
                                            replace p213 := eq_true p213
                                            replace q213 := eq_true q213
                                            have p215 : 0 ≤ (x6_1 : Int) := of_decide_eq_true (by first | (with_reducible assumption) | assumption)
                                            have q215 : x6_1 < (t194.length : Int) := of_decide_eq_true (by first | (with_reducible assumption) | assumption)
                                            obtain ⟨ad215, e215, hx215_0⟩ := Kd.at_int (Kd.R_reads' HO_4.out).2.2 x6_1 p215 q215
                                            obtain rfl : ad199 = ad215 := (by injection e215)
                                            replace p215 := eq_true p215
                                            replace q215 := eq_true q215
                                            go_wp2_with (first | (go_at_call 17; (with_reducible refine (status_Busy.calls (rd t194 x6_1) true _ A45.out).mono ?_); rintro e w' ⟨rfl, ⟨nd, rfl⟩⟩; have p217 : 0 ≤ (x6_1 : Int) := of_decide_eq_true (by first | (with_reducible assumption) | assumption); have q217 : x6_1 < (l0.length : Int) := of_decide_eq_true (by first | (with_reducible assumption) | assumption); obtain ⟨ad217, e217, hx217_0⟩ := Kd.at_int HR0.out x6_1 p217 q217; obtain rfl : ad197 = ad217 := (by injection e217); replace hx217_0 := (HB.out.cell (World.block_lt_of_cell? w _ hx217_0)).trans hx217_0; replace p217 := eq_true p217; replace q217 := eq_true q217))
                                            go_roundg kj15
                                            case measure => have := HK1.out; have := HJ11.out; have := HJ15.out; omega
                                            case rel => exact ⟨(true), (wrap64 (x6_1 + 1)), (by first | rfl | (simp; done) | (simp [*]; done)), (by first | rfl | (simp; done) | (simp [*]; done)), H', ⟨by have := HK1.out; have := HJ11.out; have := HJ15.out; omega⟩, ⟨by (with_reducible repeat (first | apply Kd.R_alloc | apply Kd.R_drewN | apply Kd.R_drew)); exact HO_4.out⟩, ⟨by repeat (first | (with_reducible first | exact HB.out | apply below_alloc | apply pw_below_drewN | apply below_drew1) | exact HB.out)⟩⟩
                                          · rw [if_neg c47] at H
                                            have c47b0 : ((rd l0 x6_1) == 1) = false := beq_eq_false_iff_ne.mpr c47
                                            have c47b1 : ((rd l0 x6_1) != 1) = true := bne_iff_ne.mpr c47
                                            by_cases c48 : x6_1 = 0
                                            · rw [if_pos c48] at H
                                              have c48b0 : (x6_1 == 0) = true := beq_iff_eq.mpr c48
                                              have c48b1 : (x6_1 != 0) = false := bne_eq_false_iff_eq.mpr c48
                                              clear c48
                                              obtain rfl := Option.some.inj H
                                              have p199 : 0 ≤ (x6_1 : Int) := of_decide_eq_true (by first | (with_reducible assumption) | assumption)
                                              have q199 : x6_1 < (t194.length : Int) := of_decide_eq_true (by first | (with_reducible assumption) | assumption)
                                              obtain ⟨ad199, e199, hx199_0⟩ := Kd.at_int (Kd.R_reads' HO_4.out).2.2 x6_1 p199 q199
                                              cases e199
                                              replace p199 := eq_true p199
                                              replace q199 := eq_true q199
                                              have p212 : 0 ≤ (x6_1 : Int) := of_decide_eq_true (by first | (with_reducible assumption) | assumption)
                                              have q212 : x6_1 < (t194.length : Int) := of_decide_eq_true (by first | (with_reducible assumption) | assumption)
                                              obtain ⟨ad212, e212, hx212_0⟩ := Kd.at_int (Kd.R_reads' HO_4.out).2.2 x6_1 p212 q212
                                              obtain rfl : ad199 = ad212 := (by injection e212)
                                              replace p212 := eq_true p212
                                              replace q212 := eq_true q212
                                              have p213 : 0 ≤ (x6_1 : Int) := of_decide_eq_true (by first | (with_reducible assumption) | assumption)
                                              have q213 : x6_1 < (l0.length : Int) := of_decide_eq_true (by first | (with_reducible assumption) | assumption)
                                              obtain ⟨ad213, e213, hx213_0⟩ := Kd.at_int HR0.out x6_1 p213 q213
                                              obtain rfl : ad197 = ad213 := (by injection e213)
                                              replace hx213_0 := (HB.out.cell (World.block_lt_of_cell? w _ hx213_0)).trans hx213_0
                                              replace p213 := eq_true p213
                                              replace q213 := eq_true q213
                                              have p215 : 0 ≤ (x6_1 : Int) := of_decide_eq_true (by first | (with_reducible assumption) | assumption)
                                              have q215 : x6_1 < (t194.length : Int) := of_decide_eq_true (by first | (with_reducible assumption) | assumption)
                                              obtain ⟨ad215, e215, hx215_0⟩ := Kd.at_int (Kd.R_reads' HO_4.out).2.2 x6_1 p215 q215
                                              obtain rfl : ad199 = ad215 := (by injection e215)
                                              replace p215 := eq_true p215
                                              replace q215 := eq_true q215
                                              go_wp2_with (first | (go_at_call 17; (with_reducible refine (status_Busy.calls (rd t194 x6_1) true _ A45.out).mono ?_); rintro e w' ⟨rfl, ⟨nd, rfl⟩⟩; have p217 : 0 ≤ (x6_1 : Int) := of_decide_eq_true (by first | (with_reducible assumption) | assumption); have q217 : x6_1 < (l0.length : Int) := of_decide_eq_true (by first | (with_reducible assumption) | assumption); obtain ⟨ad217, e217, hx217_0⟩ := Kd.at_int HR0.out x6_1 p217 q217; obtain rfl : ad197 = ad217 := (by injection e217); replace hx217_0 := (HB.out.cell (World.block_lt_of_cell? w _ hx217_0)).trans hx217_0; replace p217 := eq_true p217; replace q217 := eq_true q217))
                                              go_ret
                                              exact ⟨by first | rfl | (simp [errW_none, errW_some] <;> rfl) | (simp [*, errW_none, errW_some] <;> rfl), by repeat (first | (with_reducible first | exact HB.out | apply below_alloc | apply pw_below_drewN | apply below_drew1) | exact HB.out)⟩
                                            · rw [if_neg c48] at H
                                              have c48b0 : (x6_1 == 0) = false := beq_eq_false_iff_ne.mpr c48
                                              have c48b1 : (x6_1 != 0) = true := bne_iff_ne.mpr c48
                                              obtain ⟨ji49, hji49⟩ : ∃ j_ : Int, (wrap64 (x6_1 - 1)) = j_ := ⟨_, rfl⟩
                                              replace H : (if 0 ≤ (ji49) then (if (ji49) < (t194.length : Int) then ((status_Busy.f (rd t194 (ji49))).bind fun t219 => (if t219 = true then (pantrylaw17_StatusKeeps.l0 kj15 l0 t193 t194 true (wrap64 (x6_1 + 1))) else (some false))) else (none)) else (none)) = some r := by first | (rw [hji49] at H; exact H) | (simp only [hji49] at H ⊢; exact H)
                                              (try rw [hji49] at A45)
                                              have hji49w : (IntKind.i64.wrap (x6_1 - 1)) = ji49 := (i64_w _).trans hji49
                                              by_cases c50 : 0 ≤ (ji49)
                                              · rw [if_pos c50] at H
                                                have c50b0 : decide (0 ≤ (ji49)) = true := decide_eq_true c50
                                                clear c50
                                                by_cases c51 : (ji49) < (t194.length : Int)
                                                · rw [if_pos c51] at H
                                                  have c51b0 : decide ((ji49) < (t194.length : Int)) = true := decide_eq_true c51
                                                  clear c51
                                                  replace H := Option.bind_eq_some_iff.mp H
                                                  obtain ⟨t219, A520, H⟩ := H
                                                  replace H : (if t219 = true then (pantrylaw17_StatusKeeps.l0 kj15 l0 t193 t194 true (wrap64 (x6_1 + 1))) else (some false)) = some r := H
                                                  have A52 := Aside0.mk A520
                                                  clear A520
                                                  by_cases c53 : t219 = true
                                                  · subst c53
                                                    have H1 : (pantrylaw17_StatusKeeps.l0 kj15 l0 t193 t194 true (wrap64 (x6_1 + 1))) = some r := by rw [if_pos rfl] at H; exact H
                                                    clear H
                                                    have H := H1
                                                    clear H1
                                                    have H' := Aside0.mk H
                                                    clear H
                                                    have p199 : 0 ≤ (x6_1 : Int) := of_decide_eq_true (by first | (with_reducible assumption) | assumption)
                                                    have q199 : x6_1 < (t194.length : Int) := of_decide_eq_true (by first | (with_reducible assumption) | assumption)
                                                    obtain ⟨ad199, e199, hx199_0⟩ := Kd.at_int (Kd.R_reads' HO_4.out).2.2 x6_1 p199 q199
                                                    cases e199
                                                    replace p199 := eq_true p199
                                                    replace q199 := eq_true q199
                                                    have p212 : 0 ≤ (x6_1 : Int) := of_decide_eq_true (by first | (with_reducible assumption) | assumption)
                                                    have q212 : x6_1 < (t194.length : Int) := of_decide_eq_true (by first | (with_reducible assumption) | assumption)
                                                    obtain ⟨ad212, e212, hx212_0⟩ := Kd.at_int (Kd.R_reads' HO_4.out).2.2 x6_1 p212 q212
                                                    obtain rfl : ad199 = ad212 := (by injection e212)
                                                    replace p212 := eq_true p212
                                                    replace q212 := eq_true q212
                                                    have p213 : 0 ≤ (x6_1 : Int) := of_decide_eq_true (by first | (with_reducible assumption) | assumption)
                                                    have q213 : x6_1 < (l0.length : Int) := of_decide_eq_true (by first | (with_reducible assumption) | assumption)
                                                    obtain ⟨ad213, e213, hx213_0⟩ := Kd.at_int HR0.out x6_1 p213 q213
                                                    obtain rfl : ad197 = ad213 := (by injection e213)
                                                    replace hx213_0 := (HB.out.cell (World.block_lt_of_cell? w _ hx213_0)).trans hx213_0
                                                    replace p213 := eq_true p213
                                                    replace q213 := eq_true q213
                                                    have p215 : 0 ≤ (x6_1 : Int) := of_decide_eq_true (by first | (with_reducible assumption) | assumption)
                                                    have q215 : x6_1 < (t194.length : Int) := of_decide_eq_true (by first | (with_reducible assumption) | assumption)
                                                    obtain ⟨ad215, e215, hx215_0⟩ := Kd.at_int (Kd.R_reads' HO_4.out).2.2 x6_1 p215 q215
                                                    obtain rfl : ad199 = ad215 := (by injection e215)
                                                    replace p215 := eq_true p215
                                                    replace q215 := eq_true q215
                                                    go_wp2_with (first | (go_at_call 17; (with_reducible refine (status_Busy.calls (rd t194 x6_1) true _ A45.out).mono ?_); rintro e w' ⟨rfl, ⟨nd, rfl⟩⟩; have p217 : 0 ≤ (x6_1 : Int) := of_decide_eq_true (by first | (with_reducible assumption) | assumption); have q217 : x6_1 < (l0.length : Int) := of_decide_eq_true (by first | (with_reducible assumption) | assumption); obtain ⟨ad217, e217, hx217_0⟩ := Kd.at_int HR0.out x6_1 p217 q217; obtain rfl : ad197 = ad217 := (by injection e217); replace hx217_0 := (HB.out.cell (World.block_lt_of_cell? w _ hx217_0)).trans hx217_0; replace p217 := eq_true p217; replace q217 := eq_true q217; have p218 : 0 ≤ ((ji49) : Int) := of_decide_eq_true (by first | (with_reducible assumption) | assumption); have q218 : (ji49) < (t194.length : Int) := of_decide_eq_true (by first | (with_reducible assumption) | assumption); obtain ⟨ad218, e218, hx218_0⟩ := Kd.at_int (Kd.R_reads' HO_4.out).2.2 (ji49) p218 q218; obtain rfl : ad199 = ad218 := (by injection e218); replace p218 := eq_true p218; replace q218 := eq_true q218) | (go_at_call 17; (with_reducible refine (status_Busy.calls (rd t194 (ji49)) true _ A52.out).mono ?_); rintro e w' ⟨rfl, ⟨nd, rfl⟩⟩))
                                                    go_roundg kj15
                                                    case measure => have := HK1.out; have := HJ11.out; have := HJ15.out; omega
                                                    case rel => exact ⟨(true), (wrap64 (x6_1 + 1)), (by first | rfl | (simp; done) | (simp [*]; done)), (by first | rfl | (simp; done) | (simp [*]; done)), H', ⟨by have := HK1.out; have := HJ11.out; have := HJ15.out; omega⟩, ⟨by (with_reducible repeat (first | apply Kd.R_alloc | apply Kd.R_drewN | apply Kd.R_drew)); exact HO_4.out⟩, ⟨by repeat (first | (with_reducible first | exact HB.out | apply below_alloc | apply pw_below_drewN | apply below_drew1) | exact HB.out)⟩⟩
                                                  · replace c53 := Bool.eq_false_iff.mpr c53
                                                    subst c53
                                                    have H1 : (some false) = some r := by rw [if_neg (show ¬ (false = true) by decide)] at H; exact H
                                                    clear H
                                                    have H := H1
                                                    clear H1
                                                    obtain rfl := Option.some.inj H
                                                    have p199 : 0 ≤ (x6_1 : Int) := of_decide_eq_true (by first | (with_reducible assumption) | assumption)
                                                    have q199 : x6_1 < (t194.length : Int) := of_decide_eq_true (by first | (with_reducible assumption) | assumption)
                                                    obtain ⟨ad199, e199, hx199_0⟩ := Kd.at_int (Kd.R_reads' HO_4.out).2.2 x6_1 p199 q199
                                                    cases e199
                                                    replace p199 := eq_true p199
                                                    replace q199 := eq_true q199
                                                    have p212 : 0 ≤ (x6_1 : Int) := of_decide_eq_true (by first | (with_reducible assumption) | assumption)
                                                    have q212 : x6_1 < (t194.length : Int) := of_decide_eq_true (by first | (with_reducible assumption) | assumption)
                                                    obtain ⟨ad212, e212, hx212_0⟩ := Kd.at_int (Kd.R_reads' HO_4.out).2.2 x6_1 p212 q212
                                                    obtain rfl : ad199 = ad212 := (by injection e212)
                                                    replace p212 := eq_true p212
                                                    replace q212 := eq_true q212
                                                    have p213 : 0 ≤ (x6_1 : Int) := of_decide_eq_true (by first | (with_reducible assumption) | assumption)
                                                    have q213 : x6_1 < (l0.length : Int) := of_decide_eq_true (by first | (with_reducible assumption) | assumption)
                                                    obtain ⟨ad213, e213, hx213_0⟩ := Kd.at_int HR0.out x6_1 p213 q213
                                                    obtain rfl : ad197 = ad213 := (by injection e213)
                                                    replace hx213_0 := (HB.out.cell (World.block_lt_of_cell? w _ hx213_0)).trans hx213_0
                                                    replace p213 := eq_true p213
                                                    replace q213 := eq_true q213
                                                    have p215 : 0 ≤ (x6_1 : Int) := of_decide_eq_true (by first | (with_reducible assumption) | assumption)
                                                    have q215 : x6_1 < (t194.length : Int) := of_decide_eq_true (by first | (with_reducible assumption) | assumption)
                                                    obtain ⟨ad215, e215, hx215_0⟩ := Kd.at_int (Kd.R_reads' HO_4.out).2.2 x6_1 p215 q215
                                                    obtain rfl : ad199 = ad215 := (by injection e215)
                                                    replace p215 := eq_true p215
                                                    replace q215 := eq_true q215
                                                    go_wp2_with (first | (go_at_call 17; (with_reducible refine (status_Busy.calls (rd t194 x6_1) true _ A45.out).mono ?_); rintro e w' ⟨rfl, ⟨nd, rfl⟩⟩; have p217 : 0 ≤ (x6_1 : Int) := of_decide_eq_true (by first | (with_reducible assumption) | assumption); have q217 : x6_1 < (l0.length : Int) := of_decide_eq_true (by first | (with_reducible assumption) | assumption); obtain ⟨ad217, e217, hx217_0⟩ := Kd.at_int HR0.out x6_1 p217 q217; obtain rfl : ad197 = ad217 := (by injection e217); replace hx217_0 := (HB.out.cell (World.block_lt_of_cell? w _ hx217_0)).trans hx217_0; replace p217 := eq_true p217; replace q217 := eq_true q217; have p218 : 0 ≤ ((ji49) : Int) := of_decide_eq_true (by first | (with_reducible assumption) | assumption); have q218 : (ji49) < (t194.length : Int) := of_decide_eq_true (by first | (with_reducible assumption) | assumption); obtain ⟨ad218, e218, hx218_0⟩ := Kd.at_int (Kd.R_reads' HO_4.out).2.2 (ji49) p218 q218; obtain rfl : ad199 = ad218 := (by injection e218); replace p218 := eq_true p218; replace q218 := eq_true q218) | (go_at_call 17; (with_reducible refine (status_Busy.calls (rd t194 (ji49)) false _ A52.out).mono ?_); rintro e w' ⟨rfl, ⟨nd, rfl⟩⟩))
                                                    go_ret
                                                    exact ⟨by first | rfl | (simp [errW_none, errW_some] <;> rfl) | (simp only [← hji49]; first | rfl | (simp [errW_none, errW_some] <;> rfl)) | (simp [*, errW_none, errW_some] <;> rfl), by repeat (first | (with_reducible first | exact HB.out | apply below_alloc | apply pw_below_drewN | apply below_drew1) | exact HB.out)⟩
                                                · rw [if_neg c51] at H
                                                  exact absurd H (by simp)
                                              · rw [if_neg c50] at H
                                                exact absurd H (by simp)
                                        · replace c46 := Bool.eq_false_iff.mpr c46
                                          subst c46
                                          have H1 : (pantrylaw17_StatusKeeps.l0 kj15 l0 t193 t194 true (wrap64 (x6_1 + 1))) = some r := by rw [if_neg (show ¬ (false = true) by decide)] at H; exact H
                                          clear H
                                          have H := H1
                                          clear H1
                                          have H' := Aside0.mk H
                                          clear H
                                          have p199 : 0 ≤ (x6_1 : Int) := of_decide_eq_true (by first | (with_reducible assumption) | assumption)
                                          have q199 : x6_1 < (t194.length : Int) := of_decide_eq_true (by first | (with_reducible assumption) | assumption)
                                          obtain ⟨ad199, e199, hx199_0⟩ := Kd.at_int (Kd.R_reads' HO_4.out).2.2 x6_1 p199 q199
                                          cases e199
                                          replace p199 := eq_true p199
                                          replace q199 := eq_true q199
                                          have p212 : 0 ≤ (x6_1 : Int) := of_decide_eq_true (by first | (with_reducible assumption) | assumption)
                                          have q212 : x6_1 < (t194.length : Int) := of_decide_eq_true (by first | (with_reducible assumption) | assumption)
                                          obtain ⟨ad212, e212, hx212_0⟩ := Kd.at_int (Kd.R_reads' HO_4.out).2.2 x6_1 p212 q212
                                          obtain rfl : ad199 = ad212 := (by injection e212)
                                          replace p212 := eq_true p212
                                          replace q212 := eq_true q212
                                          have p213 : 0 ≤ (x6_1 : Int) := of_decide_eq_true (by first | (with_reducible assumption) | assumption)
                                          have q213 : x6_1 < (l0.length : Int) := of_decide_eq_true (by first | (with_reducible assumption) | assumption)
                                          obtain ⟨ad213, e213, hx213_0⟩ := Kd.at_int HR0.out x6_1 p213 q213
                                          obtain rfl : ad197 = ad213 := (by injection e213)
                                          replace hx213_0 := (HB.out.cell (World.block_lt_of_cell? w _ hx213_0)).trans hx213_0
                                          replace p213 := eq_true p213
                                          replace q213 := eq_true q213
                                          have p215 : 0 ≤ (x6_1 : Int) := of_decide_eq_true (by first | (with_reducible assumption) | assumption)
                                          have q215 : x6_1 < (t194.length : Int) := of_decide_eq_true (by first | (with_reducible assumption) | assumption)
                                          obtain ⟨ad215, e215, hx215_0⟩ := Kd.at_int (Kd.R_reads' HO_4.out).2.2 x6_1 p215 q215
                                          obtain rfl : ad199 = ad215 := (by injection e215)
                                          replace p215 := eq_true p215
                                          replace q215 := eq_true q215
                                          go_wp2_with (first | (go_at_call 17; (with_reducible refine (status_Busy.calls (rd t194 x6_1) false _ A45.out).mono ?_); rintro e w' ⟨rfl, ⟨nd, rfl⟩⟩))
                                          go_roundg kj15
                                          case measure => have := HK1.out; have := HJ11.out; have := HJ15.out; omega
                                          case rel => exact ⟨(true), (wrap64 (x6_1 + 1)), (by first | rfl | (simp; done) | (simp [*]; done)), (by first | rfl | (simp; done) | (simp [*]; done)), H', ⟨by have := HK1.out; have := HJ11.out; have := HJ15.out; omega⟩, ⟨by (with_reducible repeat (first | apply Kd.R_alloc | apply Kd.R_drewN | apply Kd.R_drew)); exact HO_4.out⟩, ⟨by repeat (first | (with_reducible first | exact HB.out | apply below_alloc | apply pw_below_drewN | apply below_drew1) | exact HB.out)⟩⟩
                                    · rw [if_neg c43] at H
                                      exact absurd H (by simp)
                                  · rw [if_neg c42] at H
                                    have c42b0 : ((rd t194 x6_1) == 3) = false := beq_eq_false_iff_ne.mpr c42
                                    have c42b1 : ((rd t194 x6_1) != 3) = true := bne_iff_ne.mpr c42
                                    obtain rfl := Option.some.inj H
                                    have p199 : 0 ≤ (x6_1 : Int) := of_decide_eq_true (by first | (with_reducible assumption) | assumption)
                                    have q199 : x6_1 < (t194.length : Int) := of_decide_eq_true (by first | (with_reducible assumption) | assumption)
                                    obtain ⟨ad199, e199, hx199_0⟩ := Kd.at_int (Kd.R_reads' HO_4.out).2.2 x6_1 p199 q199
                                    cases e199
                                    replace p199 := eq_true p199
                                    replace q199 := eq_true q199
                                    have p212 : 0 ≤ (x6_1 : Int) := of_decide_eq_true (by first | (with_reducible assumption) | assumption)
                                    have q212 : x6_1 < (t194.length : Int) := of_decide_eq_true (by first | (with_reducible assumption) | assumption)
                                    obtain ⟨ad212, e212, hx212_0⟩ := Kd.at_int (Kd.R_reads' HO_4.out).2.2 x6_1 p212 q212
                                    obtain rfl : ad199 = ad212 := (by injection e212)
                                    replace p212 := eq_true p212
                                    replace q212 := eq_true q212
                                    go_wp2
                                    go_ret
                                    exact ⟨by first | rfl | (simp [errW_none, errW_some] <;> rfl) | (simp [*, errW_none, errW_some] <;> rfl), by repeat (first | (with_reducible first | exact HB.out | apply below_alloc | apply pw_below_drewN | apply below_drew1) | exact HB.out)⟩
                              · rw [if_neg c20] at H
                                exact absurd H (by simp)
                            · rw [if_neg c19] at H
                              exact absurd H (by simp)
                          · replace c18 := Bool.eq_false_iff.mpr c18
                            subst c18
                            have H1 : (if 0 ≤ x6_1 then (if x6_1 < (l0.length : Int) then (if (rd l0 x6_1) = 2 then (if x6_1 < (t194.length : Int) then ((status_Busy.f (rd t194 x6_1)).bind fun t222 => (if t222 = true then (if (rd l0 x6_1) = 1 then (pantrylaw17_StatusKeeps.l0 kj15 l0 t193 t194 false (wrap64 (x6_1 + 1))) else (if x6_1 = 0 then (some false) else (if 0 ≤ (wrap64 (x6_1 - 1)) then (if (wrap64 (x6_1 - 1)) < (t194.length : Int) then ((status_Busy.f (rd t194 (wrap64 (x6_1 - 1)))).bind fun t225 => (if t225 = true then (pantrylaw17_StatusKeeps.l0 kj15 l0 t193 t194 false (wrap64 (x6_1 + 1))) else (some false))) else (none)) else (none)))) else (pantrylaw17_StatusKeeps.l0 kj15 l0 t193 t194 false (wrap64 (x6_1 + 1))))) else (none)) else (if x6_1 < (t194.length : Int) then ((status_Busy.f (rd t194 x6_1)).bind fun t227 => (if t227 = true then (if (rd l0 x6_1) = 1 then (pantrylaw17_StatusKeeps.l0 kj15 l0 t193 t194 false (wrap64 (x6_1 + 1))) else (if x6_1 = 0 then (some false) else (if 0 ≤ (wrap64 (x6_1 - 1)) then (if (wrap64 (x6_1 - 1)) < (t194.length : Int) then ((status_Busy.f (rd t194 (wrap64 (x6_1 - 1)))).bind fun t230 => (if t230 = true then (pantrylaw17_StatusKeeps.l0 kj15 l0 t193 t194 false (wrap64 (x6_1 + 1))) else (some false))) else (none)) else (none)))) else (pantrylaw17_StatusKeeps.l0 kj15 l0 t193 t194 false (wrap64 (x6_1 + 1))))) else (none))) else (none)) else (none)) = some r := by rw [if_neg (show ¬ (false = true) by decide)] at H; exact H
                            clear H
                            have H := H1
                            clear H1
                            by_cases c54 : 0 ≤ x6_1
                            · rw [if_pos c54] at H
                              have c54b0 : decide (0 ≤ x6_1) = true := decide_eq_true c54
                              clear c54
                              by_cases c55 : x6_1 < (l0.length : Int)
                              · rw [if_pos c55] at H
                                have c55b0 : decide (x6_1 < (l0.length : Int)) = true := decide_eq_true c55
                                clear c55
                                by_cases c56 : (rd l0 x6_1) = 2
                                · rw [if_pos c56] at H
                                  have c56b0 : ((rd l0 x6_1) == 2) = true := beq_iff_eq.mpr c56
                                  have c56b1 : ((rd l0 x6_1) != 2) = false := bne_eq_false_iff_eq.mpr c56
                                  clear c56
                                  by_cases c57 : x6_1 < (t194.length : Int)
                                  · rw [if_pos c57] at H
                                    have c57b0 : decide (x6_1 < (t194.length : Int)) = true := decide_eq_true c57
                                    clear c57
                                    replace H := Option.bind_eq_some_iff.mp H
                                    obtain ⟨t222, A580, H⟩ := H
                                    replace H : (if t222 = true then (if (rd l0 x6_1) = 1 then (pantrylaw17_StatusKeeps.l0 kj15 l0 t193 t194 false (wrap64 (x6_1 + 1))) else (if x6_1 = 0 then (some false) else (if 0 ≤ (wrap64 (x6_1 - 1)) then (if (wrap64 (x6_1 - 1)) < (t194.length : Int) then ((status_Busy.f (rd t194 (wrap64 (x6_1 - 1)))).bind fun t225 => (if t225 = true then (pantrylaw17_StatusKeeps.l0 kj15 l0 t193 t194 false (wrap64 (x6_1 + 1))) else (some false))) else (none)) else (none)))) else (pantrylaw17_StatusKeeps.l0 kj15 l0 t193 t194 false (wrap64 (x6_1 + 1)))) = some r := H
                                    have A58 := Aside0.mk A580
                                    clear A580
                                    by_cases c59 : t222 = true
                                    · subst c59
                                      have H1 : (if (rd l0 x6_1) = 1 then (pantrylaw17_StatusKeeps.l0 kj15 l0 t193 t194 false (wrap64 (x6_1 + 1))) else (if x6_1 = 0 then (some false) else (if 0 ≤ (wrap64 (x6_1 - 1)) then (if (wrap64 (x6_1 - 1)) < (t194.length : Int) then ((status_Busy.f (rd t194 (wrap64 (x6_1 - 1)))).bind fun t225 => (if t225 = true then (pantrylaw17_StatusKeeps.l0 kj15 l0 t193 t194 false (wrap64 (x6_1 + 1))) else (some false))) else (none)) else (none)))) = some r := by rw [if_pos rfl] at H; exact H
                                      clear H
                                      have H := H1
                                      clear H1
                                      by_cases c60 : (rd l0 x6_1) = 1
                                      · rw [if_pos c60] at H
                                        have c60b0 : ((rd l0 x6_1) == 1) = true := beq_iff_eq.mpr c60
                                        have c60b1 : ((rd l0 x6_1) != 1) = false := bne_eq_false_iff_eq.mpr c60
                                        clear c60
                                        have H' := Aside0.mk H
                                        clear H
                                        have p220 : 0 ≤ (x6_1 : Int) := of_decide_eq_true (by first | (with_reducible assumption) | assumption)
                                        have q220 : x6_1 < (l0.length : Int) := of_decide_eq_true (by first | (with_reducible assumption) | assumption)
                                        obtain ⟨ad220, e220, hx220_0⟩ := Kd.at_int HR0.out x6_1 p220 q220
                                        obtain rfl : ad197 = ad220 := (by injection e220)
                                        replace hx220_0 := (HB.out.cell (World.block_lt_of_cell? w _ hx220_0)).trans hx220_0
                                        replace p220 := eq_true p220
                                        replace q220 := eq_true q220
                                        have p221 : 0 ≤ (x6_1 : Int) := of_decide_eq_true (by first | (with_reducible assumption) | assumption)
                                        have q221 : x6_1 < (t194.length : Int) := of_decide_eq_true (by first | (with_reducible assumption) | assumption)
                                        obtain ⟨ad221, e221, hx221_0⟩ := Kd.at_int (Kd.R_reads' HO_4.out).2.2 x6_1 p221 q221
                                        cases e221
                                        replace p221 := eq_true p221
                                        replace q221 := eq_true q221
                                        go_wp2_with (first | (go_at_call 17; (with_reducible refine (status_Busy.calls (rd t194 x6_1) true _ A58.out).mono ?_); rintro e w' ⟨rfl, ⟨nd, rfl⟩⟩; have p223 : 0 ≤ (x6_1 : Int) := of_decide_eq_true (by first | (with_reducible assumption) | assumption); have q223 : x6_1 < (l0.length : Int) := of_decide_eq_true (by first | (with_reducible assumption) | assumption); obtain ⟨ad223, e223, hx223_0⟩ := Kd.at_int HR0.out x6_1 p223 q223; obtain rfl : ad197 = ad223 := (by injection e223); replace hx223_0 := (HB.out.cell (World.block_lt_of_cell? w _ hx223_0)).trans hx223_0; replace p223 := eq_true p223; replace q223 := eq_true q223))
                                        go_roundg kj15
                                        case measure => have := HK1.out; have := HJ11.out; have := HJ15.out; omega
                                        case rel => exact ⟨(false), (wrap64 (x6_1 + 1)), (by first | rfl | (simp; done) | (simp [*]; done)), (by first | rfl | (simp; done) | (simp [*]; done)), H', ⟨by have := HK1.out; have := HJ11.out; have := HJ15.out; omega⟩, ⟨by (with_reducible repeat (first | apply Kd.R_alloc | apply Kd.R_drewN | apply Kd.R_drew)); exact HO_4.out⟩, ⟨by repeat (first | (with_reducible first | exact HB.out | apply below_alloc | apply pw_below_drewN | apply below_drew1) | exact HB.out)⟩⟩
                                      · rw [if_neg c60] at H
                                        have c60b0 : ((rd l0 x6_1) == 1) = false := beq_eq_false_iff_ne.mpr c60
                                        have c60b1 : ((rd l0 x6_1) != 1) = true := bne_iff_ne.mpr c60
                                        by_cases c61 : x6_1 = 0
                                        · rw [if_pos c61] at H
                                          have c61b0 : (x6_1 == 0) = true := beq_iff_eq.mpr c61
                                          have c61b1 : (x6_1 != 0) = false := bne_eq_false_iff_eq.mpr c61
                                          clear c61
                                          obtain rfl := Option.some.inj H
                                          have p220 : 0 ≤ (x6_1 : Int) := of_decide_eq_true (by first | (with_reducible assumption) | assumption)
                                          have q220 : x6_1 < (l0.length : Int) := of_decide_eq_true (by first | (with_reducible assumption) | assumption)
                                          obtain ⟨ad220, e220, hx220_0⟩ := Kd.at_int HR0.out x6_1 p220 q220
                                          obtain rfl : ad197 = ad220 := (by injection e220)
                                          replace hx220_0 := (HB.out.cell (World.block_lt_of_cell? w _ hx220_0)).trans hx220_0
                                          replace p220 := eq_true p220
                                          replace q220 := eq_true q220
                                          have p221 : 0 ≤ (x6_1 : Int) := of_decide_eq_true (by first | (with_reducible assumption) | assumption)
                                          have q221 : x6_1 < (t194.length : Int) := of_decide_eq_true (by first | (with_reducible assumption) | assumption)
                                          obtain ⟨ad221, e221, hx221_0⟩ := Kd.at_int (Kd.R_reads' HO_4.out).2.2 x6_1 p221 q221
                                          cases e221
                                          replace p221 := eq_true p221
                                          replace q221 := eq_true q221
                                          go_wp2_with (first | (go_at_call 17; (with_reducible refine (status_Busy.calls (rd t194 x6_1) true _ A58.out).mono ?_); rintro e w' ⟨rfl, ⟨nd, rfl⟩⟩; have p223 : 0 ≤ (x6_1 : Int) := of_decide_eq_true (by first | (with_reducible assumption) | assumption); have q223 : x6_1 < (l0.length : Int) := of_decide_eq_true (by first | (with_reducible assumption) | assumption); obtain ⟨ad223, e223, hx223_0⟩ := Kd.at_int HR0.out x6_1 p223 q223; obtain rfl : ad197 = ad223 := (by injection e223); replace hx223_0 := (HB.out.cell (World.block_lt_of_cell? w _ hx223_0)).trans hx223_0; replace p223 := eq_true p223; replace q223 := eq_true q223))
                                          go_ret
                                          exact ⟨by first | rfl | (simp [errW_none, errW_some] <;> rfl) | (simp [*, errW_none, errW_some] <;> rfl), by repeat (first | (with_reducible first | exact HB.out | apply below_alloc | apply pw_below_drewN | apply below_drew1) | exact HB.out)⟩
                                        · rw [if_neg c61] at H
                                          have c61b0 : (x6_1 == 0) = false := beq_eq_false_iff_ne.mpr c61
                                          have c61b1 : (x6_1 != 0) = true := bne_iff_ne.mpr c61
                                          obtain ⟨ji62, hji62⟩ : ∃ j_ : Int, (wrap64 (x6_1 - 1)) = j_ := ⟨_, rfl⟩
                                          replace H : (if 0 ≤ (ji62) then (if (ji62) < (t194.length : Int) then ((status_Busy.f (rd t194 (ji62))).bind fun t225 => (if t225 = true then (pantrylaw17_StatusKeeps.l0 kj15 l0 t193 t194 false (wrap64 (x6_1 + 1))) else (some false))) else (none)) else (none)) = some r := by first | (rw [hji62] at H; exact H) | (simp only [hji62] at H ⊢; exact H)
                                          (try rw [hji62] at A58)
                                          have hji62w : (IntKind.i64.wrap (x6_1 - 1)) = ji62 := (i64_w _).trans hji62
                                          by_cases c63 : 0 ≤ (ji62)
                                          · rw [if_pos c63] at H
                                            have c63b0 : decide (0 ≤ (ji62)) = true := decide_eq_true c63
                                            clear c63
                                            by_cases c64 : (ji62) < (t194.length : Int)
                                            · rw [if_pos c64] at H
                                              have c64b0 : decide ((ji62) < (t194.length : Int)) = true := decide_eq_true c64
                                              clear c64
                                              replace H := Option.bind_eq_some_iff.mp H
                                              obtain ⟨t225, A650, H⟩ := H
                                              replace H : (if t225 = true then (pantrylaw17_StatusKeeps.l0 kj15 l0 t193 t194 false (wrap64 (x6_1 + 1))) else (some false)) = some r := H
                                              have A65 := Aside0.mk A650
                                              clear A650
                                              by_cases c66 : t225 = true
                                              · subst c66
                                                have H1 : (pantrylaw17_StatusKeeps.l0 kj15 l0 t193 t194 false (wrap64 (x6_1 + 1))) = some r := by rw [if_pos rfl] at H; exact H
                                                clear H
                                                have H := H1
                                                clear H1
                                                have H' := Aside0.mk H
                                                clear H
                                                have p220 : 0 ≤ (x6_1 : Int) := of_decide_eq_true (by first | (with_reducible assumption) | assumption)
                                                have q220 : x6_1 < (l0.length : Int) := of_decide_eq_true (by first | (with_reducible assumption) | assumption)
                                                obtain ⟨ad220, e220, hx220_0⟩ := Kd.at_int HR0.out x6_1 p220 q220
                                                obtain rfl : ad197 = ad220 := (by injection e220)
                                                replace hx220_0 := (HB.out.cell (World.block_lt_of_cell? w _ hx220_0)).trans hx220_0
                                                replace p220 := eq_true p220
                                                replace q220 := eq_true q220
                                                have p221 : 0 ≤ (x6_1 : Int) := of_decide_eq_true (by first | (with_reducible assumption) | assumption)
                                                have q221 : x6_1 < (t194.length : Int) := of_decide_eq_true (by first | (with_reducible assumption) | assumption)
                                                obtain ⟨ad221, e221, hx221_0⟩ := Kd.at_int (Kd.R_reads' HO_4.out).2.2 x6_1 p221 q221
                                                cases e221
                                                replace p221 := eq_true p221
                                                replace q221 := eq_true q221
                                                go_wp2_with (first | (go_at_call 17; (with_reducible refine (status_Busy.calls (rd t194 x6_1) true _ A58.out).mono ?_); rintro e w' ⟨rfl, ⟨nd, rfl⟩⟩; have p223 : 0 ≤ (x6_1 : Int) := of_decide_eq_true (by first | (with_reducible assumption) | assumption); have q223 : x6_1 < (l0.length : Int) := of_decide_eq_true (by first | (with_reducible assumption) | assumption); obtain ⟨ad223, e223, hx223_0⟩ := Kd.at_int HR0.out x6_1 p223 q223; obtain rfl : ad197 = ad223 := (by injection e223); replace hx223_0 := (HB.out.cell (World.block_lt_of_cell? w _ hx223_0)).trans hx223_0; replace p223 := eq_true p223; replace q223 := eq_true q223; have p224 : 0 ≤ ((ji62) : Int) := of_decide_eq_true (by first | (with_reducible assumption) | assumption); have q224 : (ji62) < (t194.length : Int) := of_decide_eq_true (by first | (with_reducible assumption) | assumption); obtain ⟨ad224, e224, hx224_0⟩ := Kd.at_int (Kd.R_reads' HO_4.out).2.2 (ji62) p224 q224; obtain rfl : ad221 = ad224 := (by injection e224); replace p224 := eq_true p224; replace q224 := eq_true q224) | (go_at_call 17; (with_reducible refine (status_Busy.calls (rd t194 (ji62)) true _ A65.out).mono ?_); rintro e w' ⟨rfl, ⟨nd, rfl⟩⟩))
                                                go_roundg kj15
                                                case measure => have := HK1.out; have := HJ11.out; have := HJ15.out; omega
                                                case rel => exact ⟨(false), (wrap64 (x6_1 + 1)), (by first | rfl | (simp; done) | (simp [*]; done)), (by first | rfl | (simp; done) | (simp [*]; done)), H', ⟨by have := HK1.out; have := HJ11.out; have := HJ15.out; omega⟩, ⟨by (with_reducible repeat (first | apply Kd.R_alloc | apply Kd.R_drewN | apply Kd.R_drew)); exact HO_4.out⟩, ⟨by repeat (first | (with_reducible first | exact HB.out | apply below_alloc | apply pw_below_drewN | apply below_drew1) | exact HB.out)⟩⟩
                                              · replace c66 := Bool.eq_false_iff.mpr c66
                                                subst c66
                                                have H1 : (some false) = some r := by rw [if_neg (show ¬ (false = true) by decide)] at H; exact H
                                                clear H
                                                have H := H1
                                                clear H1
                                                obtain rfl := Option.some.inj H
                                                have p220 : 0 ≤ (x6_1 : Int) := of_decide_eq_true (by first | (with_reducible assumption) | assumption)
                                                have q220 : x6_1 < (l0.length : Int) := of_decide_eq_true (by first | (with_reducible assumption) | assumption)
                                                obtain ⟨ad220, e220, hx220_0⟩ := Kd.at_int HR0.out x6_1 p220 q220
                                                obtain rfl : ad197 = ad220 := (by injection e220)
                                                replace hx220_0 := (HB.out.cell (World.block_lt_of_cell? w _ hx220_0)).trans hx220_0
                                                replace p220 := eq_true p220
                                                replace q220 := eq_true q220
                                                have p221 : 0 ≤ (x6_1 : Int) := of_decide_eq_true (by first | (with_reducible assumption) | assumption)
                                                have q221 : x6_1 < (t194.length : Int) := of_decide_eq_true (by first | (with_reducible assumption) | assumption)
                                                obtain ⟨ad221, e221, hx221_0⟩ := Kd.at_int (Kd.R_reads' HO_4.out).2.2 x6_1 p221 q221
                                                cases e221
                                                replace p221 := eq_true p221
                                                replace q221 := eq_true q221
                                                go_wp2_with (first | (go_at_call 17; (with_reducible refine (status_Busy.calls (rd t194 x6_1) true _ A58.out).mono ?_); rintro e w' ⟨rfl, ⟨nd, rfl⟩⟩; have p223 : 0 ≤ (x6_1 : Int) := of_decide_eq_true (by first | (with_reducible assumption) | assumption); have q223 : x6_1 < (l0.length : Int) := of_decide_eq_true (by first | (with_reducible assumption) | assumption); obtain ⟨ad223, e223, hx223_0⟩ := Kd.at_int HR0.out x6_1 p223 q223; obtain rfl : ad197 = ad223 := (by injection e223); replace hx223_0 := (HB.out.cell (World.block_lt_of_cell? w _ hx223_0)).trans hx223_0; replace p223 := eq_true p223; replace q223 := eq_true q223; have p224 : 0 ≤ ((ji62) : Int) := of_decide_eq_true (by first | (with_reducible assumption) | assumption); have q224 : (ji62) < (t194.length : Int) := of_decide_eq_true (by first | (with_reducible assumption) | assumption); obtain ⟨ad224, e224, hx224_0⟩ := Kd.at_int (Kd.R_reads' HO_4.out).2.2 (ji62) p224 q224; obtain rfl : ad221 = ad224 := (by injection e224); replace p224 := eq_true p224; replace q224 := eq_true q224) | (go_at_call 17; (with_reducible refine (status_Busy.calls (rd t194 (ji62)) false _ A65.out).mono ?_); rintro e w' ⟨rfl, ⟨nd, rfl⟩⟩))
                                                go_ret
                                                exact ⟨by first | rfl | (simp [errW_none, errW_some] <;> rfl) | (simp only [← hji62]; first | rfl | (simp [errW_none, errW_some] <;> rfl)) | (simp [*, errW_none, errW_some] <;> rfl), by repeat (first | (with_reducible first | exact HB.out | apply below_alloc | apply pw_below_drewN | apply below_drew1) | exact HB.out)⟩
                                            · rw [if_neg c64] at H
                                              exact absurd H (by simp)
                                          · rw [if_neg c63] at H
                                            exact absurd H (by simp)
                                    · replace c59 := Bool.eq_false_iff.mpr c59
                                      subst c59
                                      have H1 : (pantrylaw17_StatusKeeps.l0 kj15 l0 t193 t194 false (wrap64 (x6_1 + 1))) = some r := by rw [if_neg (show ¬ (false = true) by decide)] at H; exact H
                                      clear H
                                      have H := H1
                                      clear H1
                                      have H' := Aside0.mk H
                                      clear H
                                      have p220 : 0 ≤ (x6_1 : Int) := of_decide_eq_true (by first | (with_reducible assumption) | assumption)
                                      have q220 : x6_1 < (l0.length : Int) := of_decide_eq_true (by first | (with_reducible assumption) | assumption)
                                      obtain ⟨ad220, e220, hx220_0⟩ := Kd.at_int HR0.out x6_1 p220 q220
                                      obtain rfl : ad197 = ad220 := (by injection e220)
                                      replace hx220_0 := (HB.out.cell (World.block_lt_of_cell? w _ hx220_0)).trans hx220_0
                                      replace p220 := eq_true p220
                                      replace q220 := eq_true q220
                                      have p221 : 0 ≤ (x6_1 : Int) := of_decide_eq_true (by first | (with_reducible assumption) | assumption)
                                      have q221 : x6_1 < (t194.length : Int) := of_decide_eq_true (by first | (with_reducible assumption) | assumption)
                                      obtain ⟨ad221, e221, hx221_0⟩ := Kd.at_int (Kd.R_reads' HO_4.out).2.2 x6_1 p221 q221
                                      cases e221
                                      replace p221 := eq_true p221
                                      replace q221 := eq_true q221
                                      go_wp2_with (first | (go_at_call 17; (with_reducible refine (status_Busy.calls (rd t194 x6_1) false _ A58.out).mono ?_); rintro e w' ⟨rfl, ⟨nd, rfl⟩⟩))
                                      go_roundg kj15
                                      case measure => have := HK1.out; have := HJ11.out; have := HJ15.out; omega
                                      case rel => exact ⟨(false), (wrap64 (x6_1 + 1)), (by first | rfl | (simp; done) | (simp [*]; done)), (by first | rfl | (simp; done) | (simp [*]; done)), H', ⟨by have := HK1.out; have := HJ11.out; have := HJ15.out; omega⟩, ⟨by (with_reducible repeat (first | apply Kd.R_alloc | apply Kd.R_drewN | apply Kd.R_drew)); exact HO_4.out⟩, ⟨by repeat (first | (with_reducible first | exact HB.out | apply below_alloc | apply pw_below_drewN | apply below_drew1) | exact HB.out)⟩⟩
                                  · rw [if_neg c57] at H
                                    exact absurd H (by simp)
                                · rw [if_neg c56] at H
                                  have c56b0 : ((rd l0 x6_1) == 2) = false := beq_eq_false_iff_ne.mpr c56
                                  have c56b1 : ((rd l0 x6_1) != 2) = true := bne_iff_ne.mpr c56
                                  by_cases c67 : x6_1 < (t194.length : Int)
                                  · rw [if_pos c67] at H
                                    have c67b0 : decide (x6_1 < (t194.length : Int)) = true := decide_eq_true c67
                                    clear c67
                                    replace H := Option.bind_eq_some_iff.mp H
                                    obtain ⟨t227, A680, H⟩ := H
                                    replace H : (if t227 = true then (if (rd l0 x6_1) = 1 then (pantrylaw17_StatusKeeps.l0 kj15 l0 t193 t194 false (wrap64 (x6_1 + 1))) else (if x6_1 = 0 then (some false) else (if 0 ≤ (wrap64 (x6_1 - 1)) then (if (wrap64 (x6_1 - 1)) < (t194.length : Int) then ((status_Busy.f (rd t194 (wrap64 (x6_1 - 1)))).bind fun t230 => (if t230 = true then (pantrylaw17_StatusKeeps.l0 kj15 l0 t193 t194 false (wrap64 (x6_1 + 1))) else (some false))) else (none)) else (none)))) else (pantrylaw17_StatusKeeps.l0 kj15 l0 t193 t194 false (wrap64 (x6_1 + 1)))) = some r := H
                                    have A68 := Aside0.mk A680
                                    clear A680
                                    by_cases c69 : t227 = true
                                    · subst c69
                                      have H1 : (if (rd l0 x6_1) = 1 then (pantrylaw17_StatusKeeps.l0 kj15 l0 t193 t194 false (wrap64 (x6_1 + 1))) else (if x6_1 = 0 then (some false) else (if 0 ≤ (wrap64 (x6_1 - 1)) then (if (wrap64 (x6_1 - 1)) < (t194.length : Int) then ((status_Busy.f (rd t194 (wrap64 (x6_1 - 1)))).bind fun t230 => (if t230 = true then (pantrylaw17_StatusKeeps.l0 kj15 l0 t193 t194 false (wrap64 (x6_1 + 1))) else (some false))) else (none)) else (none)))) = some r := by rw [if_pos rfl] at H; exact H
                                      clear H
                                      have H := H1
                                      clear H1
                                      by_cases c70 : (rd l0 x6_1) = 1
                                      · rw [if_pos c70] at H
                                        have c70b0 : ((rd l0 x6_1) == 1) = true := beq_iff_eq.mpr c70
                                        have c70b1 : ((rd l0 x6_1) != 1) = false := bne_eq_false_iff_eq.mpr c70
                                        clear c70
                                        have H' := Aside0.mk H
                                        clear H
                                        have p220 : 0 ≤ (x6_1 : Int) := of_decide_eq_true (by first | (with_reducible assumption) | assumption)
                                        have q220 : x6_1 < (l0.length : Int) := of_decide_eq_true (by first | (with_reducible assumption) | assumption)
                                        obtain ⟨ad220, e220, hx220_0⟩ := Kd.at_int HR0.out x6_1 p220 q220
                                        obtain rfl : ad197 = ad220 := (by injection e220)
                                        replace hx220_0 := (HB.out.cell (World.block_lt_of_cell? w _ hx220_0)).trans hx220_0
                                        replace p220 := eq_true p220
                                        replace q220 := eq_true q220
                                        have p226 : 0 ≤ (x6_1 : Int) := of_decide_eq_true (by first | (with_reducible assumption) | assumption)
                                        have q226 : x6_1 < (t194.length : Int) := of_decide_eq_true (by first | (with_reducible assumption) | assumption)
                                        obtain ⟨ad226, e226, hx226_0⟩ := Kd.at_int (Kd.R_reads' HO_4.out).2.2 x6_1 p226 q226
                                        cases e226
                                        replace p226 := eq_true p226
                                        replace q226 := eq_true q226
                                        go_wp2_with (first | (go_at_call 17; (with_reducible refine (status_Busy.calls (rd t194 x6_1) true _ A68.out).mono ?_); rintro e w' ⟨rfl, ⟨nd, rfl⟩⟩; have p228 : 0 ≤ (x6_1 : Int) := of_decide_eq_true (by first | (with_reducible assumption) | assumption); have q228 : x6_1 < (l0.length : Int) := of_decide_eq_true (by first | (with_reducible assumption) | assumption); obtain ⟨ad228, e228, hx228_0⟩ := Kd.at_int HR0.out x6_1 p228 q228; obtain rfl : ad197 = ad228 := (by injection e228); replace hx228_0 := (HB.out.cell (World.block_lt_of_cell? w _ hx228_0)).trans hx228_0; replace p228 := eq_true p228; replace q228 := eq_true q228))
                                        go_roundg kj15
                                        case measure => have := HK1.out; have := HJ11.out; have := HJ15.out; omega
                                        case rel => exact ⟨(false), (wrap64 (x6_1 + 1)), (by first | rfl | (simp; done) | (simp [*]; done)), (by first | rfl | (simp; done) | (simp [*]; done)), H', ⟨by have := HK1.out; have := HJ11.out; have := HJ15.out; omega⟩, ⟨by (with_reducible repeat (first | apply Kd.R_alloc | apply Kd.R_drewN | apply Kd.R_drew)); exact HO_4.out⟩, ⟨by repeat (first | (with_reducible first | exact HB.out | apply below_alloc | apply pw_below_drewN | apply below_drew1) | exact HB.out)⟩⟩
                                      · rw [if_neg c70] at H
                                        have c70b0 : ((rd l0 x6_1) == 1) = false := beq_eq_false_iff_ne.mpr c70
                                        have c70b1 : ((rd l0 x6_1) != 1) = true := bne_iff_ne.mpr c70
                                        by_cases c71 : x6_1 = 0
                                        · rw [if_pos c71] at H
                                          have c71b0 : (x6_1 == 0) = true := beq_iff_eq.mpr c71
                                          have c71b1 : (x6_1 != 0) = false := bne_eq_false_iff_eq.mpr c71
                                          clear c71
                                          obtain rfl := Option.some.inj H
                                          have p220 : 0 ≤ (x6_1 : Int) := of_decide_eq_true (by first | (with_reducible assumption) | assumption)
                                          have q220 : x6_1 < (l0.length : Int) := of_decide_eq_true (by first | (with_reducible assumption) | assumption)
                                          obtain ⟨ad220, e220, hx220_0⟩ := Kd.at_int HR0.out x6_1 p220 q220
                                          obtain rfl : ad197 = ad220 := (by injection e220)
                                          replace hx220_0 := (HB.out.cell (World.block_lt_of_cell? w _ hx220_0)).trans hx220_0
                                          replace p220 := eq_true p220
                                          replace q220 := eq_true q220
                                          have p226 : 0 ≤ (x6_1 : Int) := of_decide_eq_true (by first | (with_reducible assumption) | assumption)
                                          have q226 : x6_1 < (t194.length : Int) := of_decide_eq_true (by first | (with_reducible assumption) | assumption)
                                          obtain ⟨ad226, e226, hx226_0⟩ := Kd.at_int (Kd.R_reads' HO_4.out).2.2 x6_1 p226 q226
                                          cases e226
                                          replace p226 := eq_true p226
                                          replace q226 := eq_true q226
                                          go_wp2_with (first | (go_at_call 17; (with_reducible refine (status_Busy.calls (rd t194 x6_1) true _ A68.out).mono ?_); rintro e w' ⟨rfl, ⟨nd, rfl⟩⟩; have p228 : 0 ≤ (x6_1 : Int) := of_decide_eq_true (by first | (with_reducible assumption) | assumption); have q228 : x6_1 < (l0.length : Int) := of_decide_eq_true (by first | (with_reducible assumption) | assumption); obtain ⟨ad228, e228, hx228_0⟩ := Kd.at_int HR0.out x6_1 p228 q228; obtain rfl : ad197 = ad228 := (by injection e228); replace hx228_0 := (HB.out.cell (World.block_lt_of_cell? w _ hx228_0)).trans hx228_0; replace p228 := eq_true p228; replace q228 := eq_true q228))
                                          go_ret
                                          exact ⟨by first | rfl | (simp [errW_none, errW_some] <;> rfl) | (simp [*, errW_none, errW_some] <;> rfl), by repeat (first | (with_reducible first | exact HB.out | apply below_alloc | apply pw_below_drewN | apply below_drew1) | exact HB.out)⟩
                                        · rw [if_neg c71] at H
                                          have c71b0 : (x6_1 == 0) = false := beq_eq_false_iff_ne.mpr c71
                                          have c71b1 : (x6_1 != 0) = true := bne_iff_ne.mpr c71
                                          obtain ⟨ji72, hji72⟩ : ∃ j_ : Int, (wrap64 (x6_1 - 1)) = j_ := ⟨_, rfl⟩
                                          replace H : (if 0 ≤ (ji72) then (if (ji72) < (t194.length : Int) then ((status_Busy.f (rd t194 (ji72))).bind fun t230 => (if t230 = true then (pantrylaw17_StatusKeeps.l0 kj15 l0 t193 t194 false (wrap64 (x6_1 + 1))) else (some false))) else (none)) else (none)) = some r := by first | (rw [hji72] at H; exact H) | (simp only [hji72] at H ⊢; exact H)
                                          (try rw [hji72] at A68)
                                          have hji72w : (IntKind.i64.wrap (x6_1 - 1)) = ji72 := (i64_w _).trans hji72
                                          by_cases c73 : 0 ≤ (ji72)
                                          · rw [if_pos c73] at H
                                            have c73b0 : decide (0 ≤ (ji72)) = true := decide_eq_true c73
                                            clear c73
                                            by_cases c74 : (ji72) < (t194.length : Int)
                                            · rw [if_pos c74] at H
                                              have c74b0 : decide ((ji72) < (t194.length : Int)) = true := decide_eq_true c74
                                              clear c74
                                              replace H := Option.bind_eq_some_iff.mp H
                                              obtain ⟨t230, A750, H⟩ := H
                                              replace H : (if t230 = true then (pantrylaw17_StatusKeeps.l0 kj15 l0 t193 t194 false (wrap64 (x6_1 + 1))) else (some false)) = some r := H
                                              have A75 := Aside0.mk A750
                                              clear A750
                                              by_cases c76 : t230 = true
                                              · subst c76
                                                have H1 : (pantrylaw17_StatusKeeps.l0 kj15 l0 t193 t194 false (wrap64 (x6_1 + 1))) = some r := by rw [if_pos rfl] at H; exact H
                                                clear H
                                                have H := H1
                                                clear H1
                                                have H' := Aside0.mk H
                                                clear H
                                                have p220 : 0 ≤ (x6_1 : Int) := of_decide_eq_true (by first | (with_reducible assumption) | assumption)
                                                have q220 : x6_1 < (l0.length : Int) := of_decide_eq_true (by first | (with_reducible assumption) | assumption)
                                                obtain ⟨ad220, e220, hx220_0⟩ := Kd.at_int HR0.out x6_1 p220 q220
                                                obtain rfl : ad197 = ad220 := (by injection e220)
                                                replace hx220_0 := (HB.out.cell (World.block_lt_of_cell? w _ hx220_0)).trans hx220_0
                                                replace p220 := eq_true p220
                                                replace q220 := eq_true q220
                                                have p226 : 0 ≤ (x6_1 : Int) := of_decide_eq_true (by first | (with_reducible assumption) | assumption)
                                                have q226 : x6_1 < (t194.length : Int) := of_decide_eq_true (by first | (with_reducible assumption) | assumption)
                                                obtain ⟨ad226, e226, hx226_0⟩ := Kd.at_int (Kd.R_reads' HO_4.out).2.2 x6_1 p226 q226
                                                cases e226
                                                replace p226 := eq_true p226
                                                replace q226 := eq_true q226
                                                go_wp2_with (first | (go_at_call 17; (with_reducible refine (status_Busy.calls (rd t194 x6_1) true _ A68.out).mono ?_); rintro e w' ⟨rfl, ⟨nd, rfl⟩⟩; have p228 : 0 ≤ (x6_1 : Int) := of_decide_eq_true (by first | (with_reducible assumption) | assumption); have q228 : x6_1 < (l0.length : Int) := of_decide_eq_true (by first | (with_reducible assumption) | assumption); obtain ⟨ad228, e228, hx228_0⟩ := Kd.at_int HR0.out x6_1 p228 q228; obtain rfl : ad197 = ad228 := (by injection e228); replace hx228_0 := (HB.out.cell (World.block_lt_of_cell? w _ hx228_0)).trans hx228_0; replace p228 := eq_true p228; replace q228 := eq_true q228; have p229 : 0 ≤ ((ji72) : Int) := of_decide_eq_true (by first | (with_reducible assumption) | assumption); have q229 : (ji72) < (t194.length : Int) := of_decide_eq_true (by first | (with_reducible assumption) | assumption); obtain ⟨ad229, e229, hx229_0⟩ := Kd.at_int (Kd.R_reads' HO_4.out).2.2 (ji72) p229 q229; obtain rfl : ad226 = ad229 := (by injection e229); replace p229 := eq_true p229; replace q229 := eq_true q229) | (go_at_call 17; (with_reducible refine (status_Busy.calls (rd t194 (ji72)) true _ A75.out).mono ?_); rintro e w' ⟨rfl, ⟨nd, rfl⟩⟩))
                                                go_roundg kj15
                                                case measure => have := HK1.out; have := HJ11.out; have := HJ15.out; omega
                                                case rel => exact ⟨(false), (wrap64 (x6_1 + 1)), (by first | rfl | (simp; done) | (simp [*]; done)), (by first | rfl | (simp; done) | (simp [*]; done)), H', ⟨by have := HK1.out; have := HJ11.out; have := HJ15.out; omega⟩, ⟨by (with_reducible repeat (first | apply Kd.R_alloc | apply Kd.R_drewN | apply Kd.R_drew)); exact HO_4.out⟩, ⟨by repeat (first | (with_reducible first | exact HB.out | apply below_alloc | apply pw_below_drewN | apply below_drew1) | exact HB.out)⟩⟩
                                              · replace c76 := Bool.eq_false_iff.mpr c76
                                                subst c76
                                                have H1 : (some false) = some r := by rw [if_neg (show ¬ (false = true) by decide)] at H; exact H
                                                clear H
                                                have H := H1
                                                clear H1
                                                obtain rfl := Option.some.inj H
                                                have p220 : 0 ≤ (x6_1 : Int) := of_decide_eq_true (by first | (with_reducible assumption) | assumption)
                                                have q220 : x6_1 < (l0.length : Int) := of_decide_eq_true (by first | (with_reducible assumption) | assumption)
                                                obtain ⟨ad220, e220, hx220_0⟩ := Kd.at_int HR0.out x6_1 p220 q220
                                                obtain rfl : ad197 = ad220 := (by injection e220)
                                                replace hx220_0 := (HB.out.cell (World.block_lt_of_cell? w _ hx220_0)).trans hx220_0
                                                replace p220 := eq_true p220
                                                replace q220 := eq_true q220
                                                have p226 : 0 ≤ (x6_1 : Int) := of_decide_eq_true (by first | (with_reducible assumption) | assumption)
                                                have q226 : x6_1 < (t194.length : Int) := of_decide_eq_true (by first | (with_reducible assumption) | assumption)
                                                obtain ⟨ad226, e226, hx226_0⟩ := Kd.at_int (Kd.R_reads' HO_4.out).2.2 x6_1 p226 q226
                                                cases e226
                                                replace p226 := eq_true p226
                                                replace q226 := eq_true q226
                                                go_wp2_with (first | (go_at_call 17; (with_reducible refine (status_Busy.calls (rd t194 x6_1) true _ A68.out).mono ?_); rintro e w' ⟨rfl, ⟨nd, rfl⟩⟩; have p228 : 0 ≤ (x6_1 : Int) := of_decide_eq_true (by first | (with_reducible assumption) | assumption); have q228 : x6_1 < (l0.length : Int) := of_decide_eq_true (by first | (with_reducible assumption) | assumption); obtain ⟨ad228, e228, hx228_0⟩ := Kd.at_int HR0.out x6_1 p228 q228; obtain rfl : ad197 = ad228 := (by injection e228); replace hx228_0 := (HB.out.cell (World.block_lt_of_cell? w _ hx228_0)).trans hx228_0; replace p228 := eq_true p228; replace q228 := eq_true q228; have p229 : 0 ≤ ((ji72) : Int) := of_decide_eq_true (by first | (with_reducible assumption) | assumption); have q229 : (ji72) < (t194.length : Int) := of_decide_eq_true (by first | (with_reducible assumption) | assumption); obtain ⟨ad229, e229, hx229_0⟩ := Kd.at_int (Kd.R_reads' HO_4.out).2.2 (ji72) p229 q229; obtain rfl : ad226 = ad229 := (by injection e229); replace p229 := eq_true p229; replace q229 := eq_true q229) | (go_at_call 17; (with_reducible refine (status_Busy.calls (rd t194 (ji72)) false _ A75.out).mono ?_); rintro e w' ⟨rfl, ⟨nd, rfl⟩⟩))
                                                go_ret
                                                exact ⟨by first | rfl | (simp [errW_none, errW_some] <;> rfl) | (simp only [← hji72]; first | rfl | (simp [errW_none, errW_some] <;> rfl)) | (simp [*, errW_none, errW_some] <;> rfl), by repeat (first | (with_reducible first | exact HB.out | apply below_alloc | apply pw_below_drewN | apply below_drew1) | exact HB.out)⟩
                                            · rw [if_neg c74] at H
                                              exact absurd H (by simp)
                                          · rw [if_neg c73] at H
                                            exact absurd H (by simp)
                                    · replace c69 := Bool.eq_false_iff.mpr c69
                                      subst c69
                                      have H1 : (pantrylaw17_StatusKeeps.l0 kj15 l0 t193 t194 false (wrap64 (x6_1 + 1))) = some r := by rw [if_neg (show ¬ (false = true) by decide)] at H; exact H
                                      clear H
                                      have H := H1
                                      clear H1
                                      have H' := Aside0.mk H
                                      clear H
                                      have p220 : 0 ≤ (x6_1 : Int) := of_decide_eq_true (by first | (with_reducible assumption) | assumption)
                                      have q220 : x6_1 < (l0.length : Int) := of_decide_eq_true (by first | (with_reducible assumption) | assumption)
                                      obtain ⟨ad220, e220, hx220_0⟩ := Kd.at_int HR0.out x6_1 p220 q220
                                      obtain rfl : ad197 = ad220 := (by injection e220)
                                      replace hx220_0 := (HB.out.cell (World.block_lt_of_cell? w _ hx220_0)).trans hx220_0
                                      replace p220 := eq_true p220
                                      replace q220 := eq_true q220
                                      have p226 : 0 ≤ (x6_1 : Int) := of_decide_eq_true (by first | (with_reducible assumption) | assumption)
                                      have q226 : x6_1 < (t194.length : Int) := of_decide_eq_true (by first | (with_reducible assumption) | assumption)
                                      obtain ⟨ad226, e226, hx226_0⟩ := Kd.at_int (Kd.R_reads' HO_4.out).2.2 x6_1 p226 q226
                                      cases e226
                                      replace p226 := eq_true p226
                                      replace q226 := eq_true q226
                                      go_wp2_with (first | (go_at_call 17; (with_reducible refine (status_Busy.calls (rd t194 x6_1) false _ A68.out).mono ?_); rintro e w' ⟨rfl, ⟨nd, rfl⟩⟩))
                                      go_roundg kj15
                                      case measure => have := HK1.out; have := HJ11.out; have := HJ15.out; omega
                                      case rel => exact ⟨(false), (wrap64 (x6_1 + 1)), (by first | rfl | (simp; done) | (simp [*]; done)), (by first | rfl | (simp; done) | (simp [*]; done)), H', ⟨by have := HK1.out; have := HJ11.out; have := HJ15.out; omega⟩, ⟨by (with_reducible repeat (first | apply Kd.R_alloc | apply Kd.R_drewN | apply Kd.R_drew)); exact HO_4.out⟩, ⟨by repeat (first | (with_reducible first | exact HB.out | apply below_alloc | apply pw_below_drewN | apply below_drew1) | exact HB.out)⟩⟩
                                  · rw [if_neg c67] at H
                                    exact absurd H (by simp)
                              · rw [if_neg c55] at H
                                exact absurd H (by simp)
                            · rw [if_neg c54] at H
                              exact absurd H (by simp)
                    · rw [if_neg c15] at H
                      exact absurd H (by simp)
                  · rw [if_neg c14] at H
                    exact absurd H (by simp)
            · rw [if_neg c11] at H
              exact absurd H (by simp)
          · rw [if_neg c10] at H
            have c10b0 : decide (x6_1 < (l0.length : Int)) = false := decide_eq_false c10
            clear c10
            obtain rfl := Option.some.inj H
            go_wp2
            go_ret
            exact ⟨by first | rfl | (simp [errW_none, errW_some] <;> rfl) | (simp [*, errW_none, errW_some] <;> rfl), by repeat (first | (with_reducible first | exact HB.out | apply below_alloc | apply pw_below_drewN | apply below_drew1) | exact HB.out)⟩
    · rw [if_neg c6] at H
      have c6b0 : ((t194.length : Int) == (l0.length : Int)) = false := beq_eq_false_iff_ne.mpr c6
      have c6b1 : ((t194.length : Int) != (l0.length : Int)) = true := bne_iff_ne.mpr c6
      have c6b2 : (t194.length == l0.length) = false := by first | simpa using c6 | (simp at c6 ⊢; omega)
      obtain rfl := Option.some.inj H
      go_enter Try.func5, Try.ntmps5
      go_wp2_with (first | ((with_reducible refine gate_callee (f := 8) rfl ?_); refine goesL_ (some 7) rfl rfl Try.func8 (by kernel_rfl) rfl #[] rfl (by (try simp only [List.map_toArray, List.map_cons, List.map_nil]); first | done | rfl | (simp only [List.length_drop, List.length_take]; rfl)) ?_; (with_reducible refine (pantrylaw17_small.calls k  t193 _ A2.out).mono ?_); rintro e w77 ⟨rfl, hb⟩; refine ⟨_, rfl, ?_⟩; have n0_ := Aside0.mk (below_step (by repeat (first | (with_reducible first | exact HB.out | apply below_alloc | apply pw_below_drewN | apply below_drew1) | exact HB.out)) hb); clear HB; have HB := n0_; clear n0_; (try clear hb); (try clear hb2); (try clear hk); (try clear hi)) | ((with_reducible refine gate_callee (f := 22) rfl ?_); refine goesL_ (some 13) rfl rfl Try.func22 (by kernel_rfl) rfl #[.slice A0 l0.length c0] rfl (by (try simp only [List.map_toArray, List.map_cons, List.map_nil]); first | done | rfl | (simp only [List.length_drop, List.length_take]; rfl)) ?_; (with_reducible refine (status_Play.calls k _ _ l0 t194 _ ?side1 ?side2 A5.out).mono ?_); (case side1 => repeat (first | exact (Kd.C_below HR0.out HB.out) | (with_reducible refine Kd.C_alloc ?_ _) | (with_reducible refine Kd.C_drewN ?_ _) | (with_reducible refine Kd.C_drew ?_))); (case side2 => exact HC0.out); rintro e w78 ⟨v195, rfl, ho0, hb⟩; refine ⟨_, rfl, ?_⟩; have n0_ := Aside0.mk (Kd.R_lower ho0 (below_size (by repeat (first | (with_reducible first | exact HB.out | apply below_alloc | apply pw_below_drewN | apply below_drew1) | exact HB.out)))); have n1_ := Aside0.mk (below_step (by repeat (first | (with_reducible first | exact HB.out | apply below_alloc | apply pw_below_drewN | apply below_drew1) | exact HB.out)) hb); clear HB; have HO196 := n0_; have HB := n1_; clear n0_ n1_; (try clear hb); (try clear hb2); (try clear hk); (try clear hi); (try clear ho0); obtain ⟨Ao79, co79, eo79⟩ := Kd.R_slice HO196.out; subst eo79))
      go_ret
      exact ⟨by first | rfl | (simp [errW_none, errW_some] <;> rfl) | (simp [*, errW_none, errW_some] <;> rfl), by repeat (first | (with_reducible first | exact HB.out | apply below_alloc | apply pw_below_drewN | apply below_drew1) | exact HB.out)⟩

/-- THE ONE PURE STATEMENT of pantrylaw17_StatusKeeps: yours. -/
def pantrylaw17_StatusKeeps.Pure : Prop := ∀ (l0 : List Int), l0.length ≤ maxLen → l0.length * 8 ≤ 140737488351232 → (∀ x ∈ l0, (Lit.int .i64 x).wf = true) → ∃ k, pantrylaw17_StatusKeeps.f k l0 = some true
theorem pantrylaw17_StatusKeeps.walk (P : pantrylaw17_StatusKeeps.Pure) (a0 : Option Addr) (len0 cap0 : Nat) (z0 : List Int) (w : World) (w0 : (a0 = none ∧ len0 = 0 ∧ cap0 = 0 ∧ z0 = []) ∨ ∃ x, a0 = some x ∧ len0 ≤ cap0 ∧ cap0 ≤ maxLen ∧ z0.length = cap0 ∧ (∀ i, i < z0.length → w.cell? (x.add i) = some (.int .i64 (z0.getD i 0))) ∧ ∀ n ∈ z0, (Lit.int .i64 n).wf = true) (y0 : len0 * 8 ≤ 140737488351232) :
    Calls Try.prog 5 #[.slice a0 len0 cap0] w fun e w' => e = .returned (.bool true) ∧ Below w.heap.size w w' := by
  obtain ⟨l0, rfl, hr0, hm0, hw0, hc0⟩ := ReadsInt.ofRowC w0
  obtain ⟨k, h⟩ := P l0 hm0 y0 hw0
  refine (pantrylaw17_StatusKeeps.calls k _ _ l0 true w (Kd.C_of_reads (d := (0 : Int)) (h1 := fun _ => rfl) hr0) hc0 h).mono ?_
  rintro e w' ⟨rfl, hd⟩
  exact ⟨rfl, hd⟩

end Go.Proofs.Ythnkpglljmglaaa.OS

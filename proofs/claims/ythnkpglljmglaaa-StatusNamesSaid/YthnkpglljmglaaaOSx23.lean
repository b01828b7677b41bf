/- Walks of the Go functions that the statement reaches: each call answers what the plain Lean function beside it says (a step on the way to the statement). Written by a program of the session's own; not a printed file. No conditions. -/
import Derived.Test.YthnkpglljmglaaaOSx0
import Derived.Test.YthnkpglljmglaaaOSx2
import Derived.Test.YthnkpglljmglaaaOSx3
import Derived.Test.YthnkpglljmglaaaOSx5
import Derived.Test.YthnkpglljmglaaaOSx9
namespace Go.Proofs.Ythnkpglljmglaaa.OS
open Go.RowKit Go.Proofs.YthnkpglljmglaaaW.PrintWords Go.Proofs.YthnkpglljmglaaaW.PrintLast Go.Proofs.YthnkpglljmglaaaW.PrintMore
attribute [local go_sem] max2_int min2_int max_two min_two max_three min_three max_four min_four   -- for this text's walks alone
set_option linter.unusedVariables false
set_option linter.unusedSimpArgs false

/-! ### pantrylaw17_StatusNames: function 7 -/
mutual
def pantrylaw17_StatusNames.l0 : Nat → Int → Bool → Int → Option (Bool)
  | 0, _, _, _ => none
  | k + 1, x0, x3, x4 => if x4 < 4 then (pantrylaw17_StatusNames.l1 k x0 x3 x4 0) else (if x3 = true then (if x0 ≥ 0 then (if x0 < 4 then (some true) else ((status_Name.f x0).bind fun t246 => ((status_Name.f 0).bind fun t247 => (if t246.toList = t247.toList then ((status_Wrote.f x0).bind fun t248 => (if t248 = 1 then ((status_Busy.f x0).bind fun t249 => (some (!t249))) else (some false))) else (some false))))) else ((status_Name.f x0).bind fun t250 => ((status_Name.f 0).bind fun t251 => (if t250.toList = t251.toList then ((status_Wrote.f x0).bind fun t252 => (if t252 = 1 then ((status_Busy.f x0).bind fun t253 => (some (!t253))) else (some false))) else (some false))))) else (some false))
def pantrylaw17_StatusNames.l1 : Nat → Int → Bool → Int → Int → Option (Bool)
  | 0, _, _, _, _ => none
  | k + 1, x0, x3, x4, x5 => if x5 < x4 then ((status_Name.f x4).bind fun t243 => ((status_Name.f x5).bind fun t244 => (if t243.toList = t244.toList then (some false) else ((status_Name.f x5).bind fun t245 => (if (t245.size : Int) = 0 then (some false) else (pantrylaw17_StatusNames.l1 k x0 x3 x4 (wrap64 (x5 + 1)))))))) else (pantrylaw17_StatusNames.l0 k x0 x3 (wrap64 (x4 + 1)))
end
def pantrylaw17_StatusNames.f (k : Nat) (a0 : Int) : Option (Bool) := (pantrylaw17_small.f k).bind fun t242 => (pantrylaw17_StatusNames.l0 k a0 t242 0)
theorem pantrylaw17_StatusNames.mono_l : ∀ k, (∀ y0 y1 y2, LeO (pantrylaw17_StatusNames.l0 k y0 y1 y2) (pantrylaw17_StatusNames.l0 (k + 1) y0 y1 y2)) ∧ (∀ y0 y1 y2 y3, LeO (pantrylaw17_StatusNames.l1 k y0 y1 y2 y3) (pantrylaw17_StatusNames.l1 (k + 1) y0 y1 y2 y3))
  | 0 => ⟨fun _ _ _ r h => by simp [pantrylaw17_StatusNames.l0] at h, fun _ _ _ _ r h => by simp [pantrylaw17_StatusNames.l1] at h⟩
  | k + 1 => by
    obtain ⟨ih0, ih1⟩ := pantrylaw17_StatusNames.mono_l k
    refine ⟨?_, ?_⟩
    · intro y0 y1 y2
      unfold pantrylaw17_StatusNames.l0
      repeat' first
      | (with_reducible exact ih0 _ _ _)
      | (with_reducible exact ih1 _ _ _ _)
      | (with_reducible exact pantrylaw17_small.mono _)
      | (with_reducible exact LeO.refl _)
      | (with_reducible exact LeO.none _)
      | (with_reducible refine LeO.ite ?_ ?_)
      | (with_reducible refine LeO.bind ?_ (fun _ => ?_))
      | exact ih0 _ _ _
      | exact ih1 _ _ _ _
      | exact pantrylaw17_small.mono _
      | exact LeO.none _
      | refine LeO.ite ?_ ?_
      | refine LeO.bind ?_ (fun _ => ?_)
    · intro y0 y1 y2 y3
      unfold pantrylaw17_StatusNames.l1
      repeat' first
      | (with_reducible exact ih0 _ _ _)
      | (with_reducible exact ih1 _ _ _ _)
      | (with_reducible exact pantrylaw17_small.mono _)
      | (with_reducible exact LeO.refl _)
      | (with_reducible exact LeO.none _)
      | (with_reducible refine LeO.ite ?_ ?_)
      | (with_reducible refine LeO.bind ?_ (fun _ => ?_))
      | exact ih0 _ _ _
      | exact ih1 _ _ _ _
      | exact pantrylaw17_small.mono _
      | exact LeO.none _
      | refine LeO.ite ?_ ?_
      | refine LeO.bind ?_ (fun _ => ?_)
theorem pantrylaw17_StatusNames.mono : ∀ a0 k, LeO (pantrylaw17_StatusNames.f k a0) (pantrylaw17_StatusNames.f (k + 1) a0) := by
  intro a0 k
  obtain ⟨ih0, ih1⟩ := pantrylaw17_StatusNames.mono_l k
  unfold pantrylaw17_StatusNames.f
  repeat' first
      | (with_reducible exact ih0 _ _ _)
      | (with_reducible exact ih1 _ _ _ _)
      | (with_reducible exact pantrylaw17_small.mono _)
      | (with_reducible exact LeO.refl _)
      | (with_reducible exact LeO.none _)
      | (with_reducible refine LeO.ite ?_ ?_)
      | (with_reducible refine LeO.bind ?_ (fun _ => ?_))
      | exact ih0 _ _ _
      | exact ih1 _ _ _ _
      | exact pantrylaw17_small.mono _
      | exact LeO.none _
      | refine LeO.ite ?_ ?_
      | refine LeO.bind ?_ (fun _ => ?_)
set_option maxHeartbeats 8000000 in
set_option maxRecDepth 100000 in
theorem pantrylaw17_StatusNames.calls (k : Nat) (a0 : Int) (r : Bool) (w : World) (h : pantrylaw17_StatusNames.f k a0 = some r) :
    Calls Try.prog 7 #[.int .i64 a0] w fun e w' => e = .returned (.bool r) ∧ Below w.heap.size w w' := by
  have HB := Aside0.mk (Below.refl w.heap.size w)
  have H : ((pantrylaw17_small.f k).bind fun t242 => (pantrylaw17_StatusNames.l0 k a0 t242 0)) = some r := h
  clear h
  replace H := Option.bind_eq_some_iff.mp H
  obtain ⟨t242, A20, H⟩ := H
  replace H : (pantrylaw17_StatusNames.l0 k a0 t242 0) = some r := H
  have A2 := Aside0.mk A20
  clear A20
  have H' := Aside0.mk H
  clear H
  go_enter Try.func7, Try.ntmps7
  go_wp2_with (first | ((with_reducible refine gate_callee (f := 8) rfl ?_); refine goesL_ (some 6) rfl rfl Try.func8 (by kernel_rfl) rfl #[] rfl (by (try simp only [List.map_toArray, List.map_cons, List.map_nil]); first | done | rfl | (simp only [List.length_drop, List.length_take]; rfl)) ?_; (with_reducible refine (pantrylaw17_small.calls k  t242 _ A2.out).mono ?_); rintro e w3 ⟨rfl, hb⟩; refine ⟨_, rfl, ?_⟩; have n0_ := Aside0.mk (below_step (by repeat (first | (with_reducible first | exact HB.out | apply below_alloc | apply pw_below_drewN | apply below_drew1) | exact HB.out)) hb); clear HB; have HB := n0_; clear n0_; (try clear hb); (try clear hb2); (try clear hk); (try clear hi)))
  go_loopg [4] k (fun kq v4 w' => ∃ (x4_1 : Int), v4 = .int .i64 x4_1 ∧ Aside0 (pantrylaw17_StatusNames.l0 kq a0 t242 x4_1 = some r) ∧ Aside0 (kq ≤ k) ∧ Aside0 (Below w.heap.size w w'))
  case atStart => exact ⟨(0), (by first | rfl | (simp; done) | (simp [*]; done)), H', ⟨Nat.le_refl _⟩, ⟨by repeat (first | (with_reducible first | exact HB.out | apply below_alloc | apply pw_below_drewN | apply below_drew1) | exact HB.out)⟩⟩
  case round =>
    clear H'
    try clear p2
    obtain ⟨x4_1, rfl, HA, HK1, HB⟩ := hrel
    cases gk with
    | zero => exact absurd HA.out (by simp [pantrylaw17_StatusNames.l0])
    | succ k1 =>
      have H := HA.out
      clear HA
      simp only [pantrylaw17_StatusNames.l0] at H
      by_cases c4 : x4_1 < 4
      · rw [if_pos c4] at H
        have c4b0 : decide (x4_1 < 4) = true := decide_eq_true c4
        clear c4
        have H' := Aside0.mk H
        clear H
        go_wp2
        go_loopg [5] k1 (fun kq v5 w' => ∃ (x5_2 : Int), v5 = .int .i64 x5_2 ∧ Aside0 (pantrylaw17_StatusNames.l1 kq a0 t242 x4_1 x5_2 = some r) ∧ Aside0 (kq ≤ k1) ∧ Aside0 (Below w.heap.size w w'))
        case atStart => exact ⟨(0), (by first | rfl | (simp; done) | (simp [*]; done)), H', ⟨Nat.le_refl _⟩, ⟨by repeat (first | (with_reducible first | exact HB.out | apply below_alloc | apply pw_below_drewN | apply below_drew1) | exact HB.out)⟩⟩
        case round =>
          clear H'
          try clear p2
          try clear c4
          try clear c4b0
          try clear p2
          obtain ⟨x5_2, rfl, HA, HK2, HB⟩ := hrel
          cases gk with
          | zero => exact absurd HA.out (by simp [pantrylaw17_StatusNames.l1])
          | succ k2 =>
            have H := HA.out
            clear HA
            simp only [pantrylaw17_StatusNames.l1] at H
            by_cases c5 : x5_2 < x4_1
            · rw [if_pos c5] at H
              have c5b0 : decide (x5_2 < x4_1) = true := decide_eq_true c5
              clear c5
              replace H := Option.bind_eq_some_iff.mp H
              obtain ⟨t243, A60, H⟩ := H
              replace H : ((status_Name.f x5_2).bind fun t244 => (if t243.toList = t244.toList then (some false) else ((status_Name.f x5_2).bind fun t245 => (if (t245.size : Int) = 0 then (some false) else (pantrylaw17_StatusNames.l1 k2 a0 t242 x4_1 (wrap64 (x5_2 + 1))))))) = some r := H
              have A6 := Aside0.mk A60
              clear A60
              replace H := Option.bind_eq_some_iff.mp H
              obtain ⟨t244, A70, H⟩ := H
              replace H : (if t243.toList = t244.toList then (some false) else ((status_Name.f x5_2).bind fun t245 => (if (t245.size : Int) = 0 then (some false) else (pantrylaw17_StatusNames.l1 k2 a0 t242 x4_1 (wrap64 (x5_2 + 1)))))) = some r := H
              have A7 := Aside0.mk A70
              clear A70
              by_cases c8 : t243.toList = t244.toList
              · rw [if_pos c8] at H
                have c8b0 : (t243.toList == t244.toList) = true := beq_iff_eq.mpr c8
                have c8b1 : (t243.toList != t244.toList) = false := bne_eq_false_iff_eq.mpr c8
                clear c8
                obtain rfl := Option.some.inj H
                go_wp2_with (first | ((with_reducible refine gate_callee (f := 19) rfl ?_); refine goesL_ (some 17) rfl rfl Try.func19 (by kernel_rfl) rfl #[.int .i64 x4_1] rfl (by (try simp only [List.map_toArray, List.map_cons, List.map_nil]); first | done | rfl | (simp only [List.length_drop, List.length_take]; rfl)) ?_; (with_reducible refine (status_Name.calls x4_1 t243 _ A6.out).mono ?_); rintro e w' ⟨rfl, ⟨nd, rfl⟩⟩; refine ⟨_, rfl, ?_⟩) | ((with_reducible refine gate_callee (f := 19) rfl ?_); refine goesL_ (some 19) rfl rfl Try.func19 (by kernel_rfl) rfl #[.int .i64 x5_2] rfl (by (try simp only [List.map_toArray, List.map_cons, List.map_nil]); first | done | rfl | (simp only [List.length_drop, List.length_take]; rfl)) ?_; (with_reducible refine (status_Name.calls x5_2 t244 _ A7.out).mono ?_); rintro e w' ⟨rfl, ⟨nd, rfl⟩⟩; refine ⟨_, rfl, ?_⟩))
                go_ret
                exact ⟨by first | rfl | (simp [errW_none, errW_some] <;> rfl) | (simp [*, errW_none, errW_some] <;> rfl), by repeat (first | (with_reducible first | exact HB.out | apply below_alloc | apply pw_below_drewN | apply below_drew1) | exact HB.out)⟩
              · rw [if_neg c8] at H
                have c8b0 : (t243.toList == t244.toList) = false := beq_eq_false_iff_ne.mpr c8
                have c8b1 : (t243.toList != t244.toList) = true := bne_iff_ne.mpr c8
                replace H := Option.bind_eq_some_iff.mp H
                obtain ⟨t245, A90, H⟩ := H
                replace H : (if (t245.size : Int) = 0 then (some false) else (pantrylaw17_StatusNames.l1 k2 a0 t242 x4_1 (wrap64 (x5_2 + 1)))) = some r := H
                have A9 := Aside0.mk A90
                clear A90
                by_cases c10 : (t245.size : Int) = 0
                · rw [if_pos c10] at H
                  have c10b0 : ((t245.size : Int) == 0) = true := beq_iff_eq.mpr c10
                  have c10b1 : ((t245.size : Int) != 0) = false := bne_eq_false_iff_eq.mpr c10
                  clear c10
                  obtain rfl := Option.some.inj H
                  go_wp2_with (first | ((with_reducible refine gate_callee (f := 19) rfl ?_); refine goesL_ (some 17) rfl rfl Try.func19 (by kernel_rfl) rfl #[.int .i64 x4_1] rfl (by (try simp only [List.map_toArray, List.map_cons, List.map_nil]); first | done | rfl | (simp only [List.length_drop, List.length_take]; rfl)) ?_; (with_reducible refine (status_Name.calls x4_1 t243 _ A6.out).mono ?_); rintro e w' ⟨rfl, ⟨nd, rfl⟩⟩; refine ⟨_, rfl, ?_⟩) | ((with_reducible refine gate_callee (f := 19) rfl ?_); refine goesL_ (some 19) rfl rfl Try.func19 (by kernel_rfl) rfl #[.int .i64 x5_2] rfl (by (try simp only [List.map_toArray, List.map_cons, List.map_nil]); first | done | rfl | (simp only [List.length_drop, List.length_take]; rfl)) ?_; (with_reducible refine (status_Name.calls x5_2 t244 _ A7.out).mono ?_); rintro e w' ⟨rfl, ⟨nd, rfl⟩⟩; refine ⟨_, rfl, ?_⟩) | (go_at_call 19; (with_reducible refine (status_Name.calls x5_2 t245 _ A9.out).mono ?_); rintro e w' ⟨rfl, ⟨nd, rfl⟩⟩))
                  go_ret
                  exact ⟨by first | rfl | (simp [errW_none, errW_some] <;> rfl) | (simp [*, errW_none, errW_some] <;> rfl), by repeat (first | (with_reducible first | exact HB.out | apply below_alloc | apply pw_below_drewN | apply below_drew1) | exact HB.out)⟩
                · rw [if_neg c10] at H
                  have c10b0 : ((t245.size : Int) == 0) = false := beq_eq_false_iff_ne.mpr c10
                  have c10b1 : ((t245.size : Int) != 0) = true := bne_iff_ne.mpr c10
                  have H' := Aside0.mk H
                  clear H
                  go_wp2_with (first | ((with_reducible refine gate_callee (f := 19) rfl ?_); refine goesL_ (some 17) rfl rfl Try.func19 (by kernel_rfl) rfl #[.int .i64 x4_1] rfl (by (try simp only [List.map_toArray, List.map_cons, List.map_nil]); first | done | rfl | (simp only [List.length_drop, List.length_take]; rfl)) ?_; (with_reducible refine (status_Name.calls x4_1 t243 _ A6.out).mono ?_); rintro e w' ⟨rfl, ⟨nd, rfl⟩⟩; refine ⟨_, rfl, ?_⟩) | ((with_reducible refine gate_callee (f := 19) rfl ?_); refine goesL_ (some 19) rfl rfl Try.func19 (by kernel_rfl) rfl #[.int .i64 x5_2] rfl (by (try simp only [List.map_toArray, List.map_cons, List.map_nil]); first | done | rfl | (simp only [List.length_drop, List.length_take]; rfl)) ?_; (with_reducible refine (status_Name.calls x5_2 t244 _ A7.out).mono ?_); rintro e w' ⟨rfl, ⟨nd, rfl⟩⟩; refine ⟨_, rfl, ?_⟩) | (go_at_call 19; (with_reducible refine (status_Name.calls x5_2 t245 _ A9.out).mono ?_); rintro e w' ⟨rfl, ⟨nd, rfl⟩⟩))
                  go_roundg k2
                  case measure => have := HK1.out; have := HK2.out; omega
                  case rel => exact ⟨(wrap64 (x5_2 + 1)), (by first | rfl | (simp; done) | (simp [*]; done)), H', ⟨by have := HK1.out; have := HK2.out; omega⟩, ⟨by repeat (first | (with_reducible first | exact HB.out | apply below_alloc | apply pw_below_drewN | apply below_drew1) | exact HB.out)⟩⟩
            · rw [if_neg c5] at H
              have c5b0 : decide (x5_2 < x4_1) = false := decide_eq_false c5
              clear c5
              have H' := Aside0.mk H
              clear H
              go_wp2
              go_roundg k2
              case measure => have := HK1.out; have := HK2.out; omega
              case rel => exact ⟨(wrap64 (x4_1 + 1)), (by first | rfl | (simp; done) | (simp [*]; done)), H', ⟨by have := HK1.out; have := HK2.out; omega⟩, ⟨by repeat (first | (with_reducible first | exact HB.out | apply below_alloc | apply pw_below_drewN | apply below_drew1) | exact HB.out)⟩⟩
      · rw [if_neg c4] at H
        have c4b0 : decide (x4_1 < 4) = false := decide_eq_false c4
        clear c4
        by_cases c11 : t242 = true
        · subst c11
          have H1 : (if a0 ≥ 0 then (if a0 < 4 then (some true) else ((status_Name.f a0).bind fun t246 => ((status_Name.f 0).bind fun t247 => (if t246.toList = t247.toList then ((status_Wrote.f a0).bind fun t248 => (if t248 = 1 then ((status_Busy.f a0).bind fun t249 => (some (!t249))) else (some false))) else (some false))))) else ((status_Name.f a0).bind fun t250 => ((status_Name.f 0).bind fun t251 => (if t250.toList = t251.toList then ((status_Wrote.f a0).bind fun t252 => (if t252 = 1 then ((status_Busy.f a0).bind fun t253 => (some (!t253))) else (some false))) else (some false))))) = some r := by rw [if_pos rfl] at H; exact H
          clear H
          have H := H1
          clear H1
          by_cases c12 : a0 ≥ 0
          · rw [if_pos c12] at H
            have c12b0 : decide (0 ≤ a0) = true := decide_eq_true c12
            clear c12
            by_cases c13 : a0 < 4
            · rw [if_pos c13] at H
              have c13b0 : decide (a0 < 4) = true := decide_eq_true c13
              clear c13
              obtain rfl := Option.some.inj H
              go_wp2
              go_ret
              exact ⟨by first | rfl | (simp [errW_none, errW_some] <;> rfl) | (simp [*, errW_none, errW_some] <;> rfl), by repeat (first | (with_reducible first | exact HB.out | apply below_alloc | apply pw_below_drewN | apply below_drew1) | exact HB.out)⟩
            · rw [if_neg c13] at H
              have c13b0 : decide (a0 < 4) = false := decide_eq_false c13
              clear c13
              replace H := Option.bind_eq_some_iff.mp H
              obtain ⟨t246, A140, H⟩ := H
              replace H : ((status_Name.f 0).bind fun t247 => (if t246.toList = t247.toList then ((status_Wrote.f a0).bind fun t248 => (if t248 = 1 then ((status_Busy.f a0).bind fun t249 => (some (!t249))) else (some false))) else (some false))) = some r := H
              have A14 := Aside0.mk A140
              clear A140
              replace H := Option.bind_eq_some_iff.mp H
              obtain ⟨t247, A150, H⟩ := H
              replace H : (if t246.toList = t247.toList then ((status_Wrote.f a0).bind fun t248 => (if t248 = 1 then ((status_Busy.f a0).bind fun t249 => (some (!t249))) else (some false))) else (some false)) = some r := H
              have A15 := Aside0.mk A150
              clear A150
              by_cases c16 : t246.toList = t247.toList
              · rw [if_pos c16] at H
                have c16b0 : (t246.toList == t247.toList) = true := beq_iff_eq.mpr c16
                have c16b1 : (t246.toList != t247.toList) = false := bne_eq_false_iff_eq.mpr c16
                clear c16
                replace H := Option.bind_eq_some_iff.mp H
                obtain ⟨t248, A170, H⟩ := H
                replace H : (if t248 = 1 then ((status_Busy.f a0).bind fun t249 => (some (!t249))) else (some false)) = some r := H
                have A17 := Aside0.mk A170
                clear A170
                by_cases c18 : t248 = 1
                · rw [if_pos c18] at H
                  have c18b0 : (t248 == 1) = true := beq_iff_eq.mpr c18
                  have c18b1 : (t248 != 1) = false := bne_eq_false_iff_eq.mpr c18
                  clear c18
                  replace H := Option.bind_eq_some_iff.mp H
                  obtain ⟨t249, A190, H⟩ := H
                  replace H : (some (!t249)) = some r := H
                  have A19 := Aside0.mk A190
                  clear A190
                  obtain rfl := Option.some.inj H
                  go_wp2_with (first | (go_at_call 19; (with_reducible refine (status_Name.calls a0 t246 _ A14.out).mono ?_); rintro e w' ⟨rfl, ⟨nd, rfl⟩⟩) | (go_at_call 19; (with_reducible refine (status_Name.calls 0 t247 _ A15.out).mono ?_); rintro e w' ⟨rfl, ⟨nd, rfl⟩⟩) | (go_at_call 9; (with_reducible refine (status_Wrote.calls a0 t248 _ A17.out).mono ?_); rintro e w' ⟨rfl, ⟨nd, rfl⟩⟩) | (go_at_call 17; (with_reducible refine (status_Busy.calls a0 t249 _ A19.out).mono ?_); rintro e w' ⟨rfl, ⟨nd, rfl⟩⟩))
                  go_ret
                  exact ⟨by first | rfl | (simp [errW_none, errW_some] <;> rfl) | (simp [*, errW_none, errW_some] <;> rfl), by repeat (first | (with_reducible first | exact HB.out | apply below_alloc | apply pw_below_drewN | apply below_drew1) | exact HB.out)⟩
                · rw [if_neg c18] at H
                  have c18b0 : (t248 == 1) = false := beq_eq_false_iff_ne.mpr c18
                  have c18b1 : (t248 != 1) = true := bne_iff_ne.mpr c18
                  obtain rfl := Option.some.inj H
                  go_wp2_with (first | (go_at_call 19; (with_reducible refine (status_Name.calls a0 t246 _ A14.out).mono ?_); rintro e w' ⟨rfl, ⟨nd, rfl⟩⟩) | (go_at_call 19; (with_reducible refine (status_Name.calls 0 t247 _ A15.out).mono ?_); rintro e w' ⟨rfl, ⟨nd, rfl⟩⟩) | (go_at_call 9; (with_reducible refine (status_Wrote.calls a0 t248 _ A17.out).mono ?_); rintro e w' ⟨rfl, ⟨nd, rfl⟩⟩))
                  go_ret
                  exact ⟨by first | rfl | (simp [errW_none, errW_some] <;> rfl) | (simp [*, errW_none, errW_some] <;> rfl), by repeat (first | (with_reducible first | exact HB.out | apply below_alloc | apply pw_below_drewN | apply below_drew1) | exact HB.out)⟩
              · rw [if_neg c16] at H
                have c16b0 : (t246.toList == t247.toList) = false := beq_eq_false_iff_ne.mpr c16
                have c16b1 : (t246.toList != t247.toList) = true := bne_iff_ne.mpr c16
                obtain rfl := Option.some.inj H
                go_wp2_with (first | (go_at_call 19; (with_reducible refine (status_Name.calls a0 t246 _ A14.out).mono ?_); rintro e w' ⟨rfl, ⟨nd, rfl⟩⟩) | (go_at_call 19; (with_reducible refine (status_Name.calls 0 t247 _ A15.out).mono ?_); rintro e w' ⟨rfl, ⟨nd, rfl⟩⟩))
                go_ret
                exact ⟨by first | rfl | (simp [errW_none, errW_some] <;> rfl) | (simp [*, errW_none, errW_some] <;> rfl), by repeat (first | (with_reducible first | exact HB.out | apply below_alloc | apply pw_below_drewN | apply below_drew1) | exact HB.out)⟩
          · rw [if_neg c12] at H
            have c12b0 : decide (0 ≤ a0) = false := decide_eq_false c12
            clear c12
            replace H := Option.bind_eq_some_iff.mp H
            obtain ⟨t250, A200, H⟩ := H
            replace H : ((status_Name.f 0).bind fun t251 => (if t250.toList = t251.toList then ((status_Wrote.f a0).bind fun t252 => (if t252 = 1 then ((status_Busy.f a0).bind fun t253 => (some (!t253))) else (some false))) else (some false))) = some r := H
            have A20 := Aside0.mk A200
            clear A200
            replace H := Option.bind_eq_some_iff.mp H
            obtain ⟨t251, A210, H⟩ := H
            replace H : (if t250.toList = t251.toList then ((status_Wrote.f a0).bind fun t252 => (if t252 = 1 then ((status_Busy.f a0).bind fun t253 => (some (!t253))) else (some false))) else (some false)) = some r := H
            have A21 := Aside0.mk A210
            clear A210
            by_cases c22 : t250.toList = t251.toList
            · rw [if_pos c22] at H
              have c22b0 : (t250.toList == t251.toList) = true := beq_iff_eq.mpr c22
              have c22b1 : (t250.toList != t251.toList) = false := bne_eq_false_iff_eq.mpr c22
              clear c22
              replace H := Option.bind_eq_some_iff.mp H
              obtain ⟨t252, A230, H⟩ := H
              replace H : (if t252 = 1 then ((status_Busy.f a0).bind fun t253 => (some (!t253))) else (some false)) = some r := H
              have A23 := Aside0.mk A230
              clear A230
              by_cases c24 : t252 = 1
              · rw [if_pos c24] at H
                have c24b0 : (t252 == 1) = true := beq_iff_eq.mpr c24
                have c24b1 : (t252 != 1) = false := bne_eq_false_iff_eq.mpr c24
                clear c24
                replace H := Option.bind_eq_some_iff.mp H
                obtain ⟨t253, A250, H⟩ := H
                replace H : (some (!t253)) = some r := H
                have A25 := Aside0.mk A250
                clear A250
                obtain rfl := Option.some.inj H
                go_wp2_with (first | (go_at_call 19; (with_reducible refine (status_Name.calls a0 t250 _ A20.out).mono ?_); rintro e w' ⟨rfl, ⟨nd, rfl⟩⟩) | (go_at_call 19; (with_reducible refine (status_Name.calls 0 t251 _ A21.out).mono ?_); rintro e w' ⟨rfl, ⟨nd, rfl⟩⟩) | (go_at_call 9; (with_reducible refine (status_Wrote.calls a0 t252 _ A23.out).mono ?_); rintro e w' ⟨rfl, ⟨nd, rfl⟩⟩) | (go_at_call 17; (with_reducible refine (status_Busy.calls a0 t253 _ A25.out).mono ?_); rintro e w' ⟨rfl, ⟨nd, rfl⟩⟩))
                go_ret
                exact ⟨by first | rfl | (simp [errW_none, errW_some] <;> rfl) | (simp [*, errW_none, errW_some] <;> rfl), by repeat (first | (with_reducible first | exact HB.out | apply below_alloc | apply pw_below_drewN | apply below_drew1) | exact HB.out)⟩
              · rw [if_neg c24] at H
                have c24b0 : (t252 == 1) = false := beq_eq_false_iff_ne.mpr c24
                have c24b1 : (t252 != 1) = true := bne_iff_ne.mpr c24
                obtain rfl := Option.some.inj H
                go_wp2_with (first | (go_at_call 19; (with_reducible refine (status_Name.calls a0 t250 _ A20.out).mono ?_); rintro e w' ⟨rfl, ⟨nd, rfl⟩⟩) | (go_at_call 19; (with_reducible refine (status_Name.calls 0 t251 _ A21.out).mono ?_); rintro e w' ⟨rfl, ⟨nd, rfl⟩⟩) | (go_at_call 9; (with_reducible refine (status_Wrote.calls a0 t252 _ A23.out).mono ?_); rintro e w' ⟨rfl, ⟨nd, rfl⟩⟩))
                go_ret
                exact ⟨by first | rfl | (simp [errW_none, errW_some] <;> rfl) | (simp [*, errW_none, errW_some] <;> rfl), by repeat (first | (with_reducible first | exact HB.out | apply below_alloc | apply pw_below_drewN | apply below_drew1) | exact HB.out)⟩
            · rw [if_neg c22] at H
              have c22b0 : (t250.toList == t251.toList) = false := beq_eq_false_iff_ne.mpr c22
              have c22b1 : (t250.toList != t251.toList) = true := bne_iff_ne.mpr c22
              obtain rfl := Option.some.inj H
              go_wp2_with (first | (go_at_call 19; (with_reducible refine (status_Name.calls a0 t250 _ A20.out).mono ?_); rintro e w' ⟨rfl, ⟨nd, rfl⟩⟩) | (go_at_call 19; (with_reducible refine (status_Name.calls 0 t251 _ A21.out).mono ?_); rintro e w' ⟨rfl, ⟨nd, rfl⟩⟩))
              go_ret
              exact ⟨by first | rfl | (simp [errW_none, errW_some] <;> rfl) | (simp [*, errW_none, errW_some] <;> rfl), by repeat (first | (with_reducible first | exact HB.out | apply below_alloc | apply pw_below_drewN | apply below_drew1) | exact HB.out)⟩
        · replace c11 := Bool.eq_false_iff.mpr c11
          subst c11
          have H1 : (some false) = some r := by rw [if_neg (show ¬ (false = true) by decide)] at H; exact H
          clear H
          have H := H1
          clear H1
          obtain rfl := Option.some.inj H
          go_wp2
          go_ret
          exact ⟨by first | rfl | (simp [errW_none, errW_some] <;> rfl) | (simp [*, errW_none, errW_some] <;> rfl), by repeat (first | (with_reducible first | exact HB.out | apply below_alloc | apply pw_below_drewN | apply below_drew1) | exact HB.out)⟩

/-- THE ONE PURE STATEMENT of pantrylaw17_StatusNames: yours. -/
def pantrylaw17_StatusNames.Pure : Prop := ∀ (a0 : Int), (Lit.int .i64 a0).wf = true → ∃ k, pantrylaw17_StatusNames.f k a0 = some true
theorem pantrylaw17_StatusNames.walk (P : pantrylaw17_StatusNames.Pure) (a0 : Int) (w : World) (w0 : (Lit.int .i64 a0).wf = true) :
    Calls Try.prog 7 #[.int .i64 a0] w fun e w' => e = .returned (.bool true) ∧ Below w.heap.size w w' := by
  obtain ⟨k, h⟩ := P a0 w0
  refine (pantrylaw17_StatusNames.calls k a0 true w h).mono ?_
  rintro e w' ⟨rfl, hd⟩
  exact ⟨rfl, hd⟩

end Go.Proofs.Ythnkpglljmglaaa.OS

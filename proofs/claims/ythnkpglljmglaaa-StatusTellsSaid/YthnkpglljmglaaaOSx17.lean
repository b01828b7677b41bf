/- Walks of the Go functions that the statement reaches: each call answers what the plain Lean function beside it says (a step on the way to the statement). Written by a program of the session's own; not a printed file. No conditions. -/
import Derived.Test.YthnkpglljmglaaaOSx0
import Derived.Test.YthnkpglljmglaaaOSx1
import Derived.Test.YthnkpglljmglaaaOSx2
import Derived.Test.YthnkpglljmglaaaOSx3
import Derived.Test.YthnkpglljmglaaaOSx5
import Derived.Test.YthnkpglljmglaaaOSx6
import Derived.Test.YthnkpglljmglaaaOSx7
import Derived.Test.YthnkpglljmglaaaOSx9
import Derived.Test.YthnkpglljmglaaaOSx11
import Derived.Test.YthnkpglljmglaaaOSx12
import Derived.Test.YthnkpglljmglaaaOSx13
import Derived.Test.YthnkpglljmglaaaOSx14
import Derived.Test.YthnkpglljmglaaaOSx15
import Derived.Test.YthnkpglljmglaaaOSx16
namespace Go.Proofs.Ythnkpglljmglaaa.OS
open Go.RowKit Go.Proofs.YthnkpglljmglaaaW.PrintWords Go.Proofs.YthnkpglljmglaaaW.PrintLast Go.Proofs.YthnkpglljmglaaaW.PrintMore
attribute [local go_sem] max2_int min2_int max_two min_two max_three min_three max_four min_four   -- for this text's walks alone
set_option linter.unusedVariables false
set_option linter.unusedSimpArgs false

/-! ### pantrylaw17_StatusTells: function 3 -/
def pantrylaw17_StatusTells.f (k : Nat) (a0 : Int) (a1 : Bool) : Option (Bool) := (pantrylaw17_small.f k).bind fun t143 => (if t143 = true then ((status_Wrote.f a0).bind fun t144 => ((pantryref17_Wrote.f a0).bind fun t145 => (if t144 = t145 then ((status_Start.f a0).bind fun t146 => ((pantryref17_Start.f a0).bind fun t147 => (if t146 = t147 then ((status_Finish.f k a0 a1).bind fun t148 => ((pantryref17_Finish.f a0 a1).bind fun t149 => (if t148 = t149 then ((status_Should.f a0 a1).bind fun t150 => ((pantryref17_Should.f a0 a1).bind fun t151 => (if (t150 == t151) = true then ((status_Busy.f a0).bind fun t152 => ((pantryref17_Busy.f a0).bind fun t153 => (if (t152 == t153) = true then ((status_Name.f a0).bind fun t154 => ((pantryref17_Name.f a0).bind fun t155 => (some (t154.toList == t155.toList)))) else (some false)))) else (some false)))) else (some false)))) else (some false)))) else (some false)))) else (some false))
theorem pantrylaw17_StatusTells.mono : ∀ a0 a1 k, LeO (pantrylaw17_StatusTells.f k a0 a1) (pantrylaw17_StatusTells.f (k + 1) a0 a1) := by
  intro a0 a1 k
  unfold pantrylaw17_StatusTells.f
  repeat' first
      | (with_reducible exact pantrylaw17_small.mono _)
      | (with_reducible exact status_Finish.mono _ _ _)
      | (with_reducible exact LeO.refl _)
      | (with_reducible exact LeO.none _)
      | (with_reducible refine LeO.ite ?_ ?_)
      | (with_reducible refine LeO.bind ?_ (fun _ => ?_))
      | exact pantrylaw17_small.mono _
      | exact status_Finish.mono _ _ _
      | exact LeO.none _
      | refine LeO.ite ?_ ?_
      | refine LeO.bind ?_ (fun _ => ?_)
set_option maxHeartbeats 8000000 in
set_option maxRecDepth 100000 in
theorem pantrylaw17_StatusTells.calls (k : Nat) (a0 : Int) (a1 : Bool) (r : Bool) (w : World) (h : pantrylaw17_StatusTells.f k a0 a1 = some r) :
    Calls Try.prog 3 #[.int .i64 a0, .bool a1] w fun e w' => e = .returned (.bool r) ∧ Below w.heap.size w w' := by
  have HB := Aside0.mk (Below.refl w.heap.size w)
  have H : ((pantrylaw17_small.f k).bind fun t143 => (if t143 = true then ((status_Wrote.f a0).bind fun t144 => ((pantryref17_Wrote.f a0).bind fun t145 => (if t144 = t145 then ((status_Start.f a0).bind fun t146 => ((pantryref17_Start.f a0).bind fun t147 => (if t146 = t147 then ((status_Finish.f k a0 a1).bind fun t148 => ((pantryref17_Finish.f a0 a1).bind fun t149 => (if t148 = t149 then ((status_Should.f a0 a1).bind fun t150 => ((pantryref17_Should.f a0 a1).bind fun t151 => (if (t150 == t151) = true then ((status_Busy.f a0).bind fun t152 => ((pantryref17_Busy.f a0).bind fun t153 => (if (t152 == t153) = true then ((status_Name.f a0).bind fun t154 => ((pantryref17_Name.f a0).bind fun t155 => (some (t154.toList == t155.toList)))) else (some false)))) else (some false)))) else (some false)))) else (some false)))) else (some false)))) else (some false))) = some r := h
  clear h
  replace H := Option.bind_eq_some_iff.mp H
  obtain ⟨t143, A30, H⟩ := H
  replace H : (if t143 = true then ((status_Wrote.f a0).bind fun t144 => ((pantryref17_Wrote.f a0).bind fun t145 => (if t144 = t145 then ((status_Start.f a0).bind fun t146 => ((pantryref17_Start.f a0).bind fun t147 => (if t146 = t147 then ((status_Finish.f k a0 a1).bind fun t148 => ((pantryref17_Finish.f a0 a1).bind fun t149 => (if t148 = t149 then ((status_Should.f a0 a1).bind fun t150 => ((pantryref17_Should.f a0 a1).bind fun t151 => (if (t150 == t151) = true then ((status_Busy.f a0).bind fun t152 => ((pantryref17_Busy.f a0).bind fun t153 => (if (t152 == t153) = true then ((status_Name.f a0).bind fun t154 => ((pantryref17_Name.f a0).bind fun t155 => (some (t154.toList == t155.toList)))) else (some false)))) else (some false)))) else (some false)))) else (some false)))) else (some false)))) else (some false)) = some r := H
  have A3 := Aside0.mk A30
  clear A30
  by_cases c4 : t143 = true
  · subst c4
    have H1 : ((status_Wrote.f a0).bind fun t144 => ((pantryref17_Wrote.f a0).bind fun t145 => (if t144 = t145 then ((status_Start.f a0).bind fun t146 => ((pantryref17_Start.f a0).bind fun t147 => (if t146 = t147 then ((status_Finish.f k a0 a1).bind fun t148 => ((pantryref17_Finish.f a0 a1).bind fun t149 => (if t148 = t149 then ((status_Should.f a0 a1).bind fun t150 => ((pantryref17_Should.f a0 a1).bind fun t151 => (if (t150 == t151) = true then ((status_Busy.f a0).bind fun t152 => ((pantryref17_Busy.f a0).bind fun t153 => (if (t152 == t153) = true then ((status_Name.f a0).bind fun t154 => ((pantryref17_Name.f a0).bind fun t155 => (some (t154.toList == t155.toList)))) else (some false)))) else (some false)))) else (some false)))) else (some false)))) else (some false)))) = some r := by rw [if_pos rfl] at H; exact H
    clear H
    have H := H1
    clear H1
    replace H := Option.bind_eq_some_iff.mp H
    obtain ⟨t144, A50, H⟩ := H
    replace H : ((pantryref17_Wrote.f a0).bind fun t145 => (if t144 = t145 then ((status_Start.f a0).bind fun t146 => ((pantryref17_Start.f a0).bind fun t147 => (if t146 = t147 then ((status_Finish.f k a0 a1).bind fun t148 => ((pantryref17_Finish.f a0 a1).bind fun t149 => (if t148 = t149 then ((status_Should.f a0 a1).bind fun t150 => ((pantryref17_Should.f a0 a1).bind fun t151 => (if (t150 == t151) = true then ((status_Busy.f a0).bind fun t152 => ((pantryref17_Busy.f a0).bind fun t153 => (if (t152 == t153) = true then ((status_Name.f a0).bind fun t154 => ((pantryref17_Name.f a0).bind fun t155 => (some (t154.toList == t155.toList)))) else (some false)))) else (some false)))) else (some false)))) else (some false)))) else (some false))) = some r := H
    have A5 := Aside0.mk A50
    clear A50
    replace H := Option.bind_eq_some_iff.mp H
    obtain ⟨t145, A60, H⟩ := H
    replace H : (if t144 = t145 then ((status_Start.f a0).bind fun t146 => ((pantryref17_Start.f a0).bind fun t147 => (if t146 = t147 then ((status_Finish.f k a0 a1).bind fun t148 => ((pantryref17_Finish.f a0 a1).bind fun t149 => (if t148 = t149 then ((status_Should.f a0 a1).bind fun t150 => ((pantryref17_Should.f a0 a1).bind fun t151 => (if (t150 == t151) = true then ((status_Busy.f a0).bind fun t152 => ((pantryref17_Busy.f a0).bind fun t153 => (if (t152 == t153) = true then ((status_Name.f a0).bind fun t154 => ((pantryref17_Name.f a0).bind fun t155 => (some (t154.toList == t155.toList)))) else (some false)))) else (some false)))) else (some false)))) else (some false)))) else (some false)) = some r := H
    have A6 := Aside0.mk A60
    clear A60
    by_cases c7 : t144 = t145
    · rw [if_pos c7] at H
      have c7b0 : (t144 == t145) = true := beq_iff_eq.mpr c7
      have c7b1 : (t144 != t145) = false := bne_eq_false_iff_eq.mpr c7
      clear c7
      replace H := Option.bind_eq_some_iff.mp H
      obtain ⟨t146, A80, H⟩ := H
      replace H : ((pantryref17_Start.f a0).bind fun t147 => (if t146 = t147 then ((status_Finish.f k a0 a1).bind fun t148 => ((pantryref17_Finish.f a0 a1).bind fun t149 => (if t148 = t149 then ((status_Should.f a0 a1).bind fun t150 => ((pantryref17_Should.f a0 a1).bind fun t151 => (if (t150 == t151) = true then ((status_Busy.f a0).bind fun t152 => ((pantryref17_Busy.f a0).bind fun t153 => (if (t152 == t153) = true then ((status_Name.f a0).bind fun t154 => ((pantryref17_Name.f a0).bind fun t155 => (some (t154.toList == t155.toList)))) else (some false)))) else (some false)))) else (some false)))) else (some false))) = some r := H
      have A8 := Aside0.mk A80
      clear A80
      replace H := Option.bind_eq_some_iff.mp H
      obtain ⟨t147, A90, H⟩ := H
      replace H : (if t146 = t147 then ((status_Finish.f k a0 a1).bind fun t148 => ((pantryref17_Finish.f a0 a1).bind fun t149 => (if t148 = t149 then ((status_Should.f a0 a1).bind fun t150 => ((pantryref17_Should.f a0 a1).bind fun t151 => (if (t150 == t151) = true then ((status_Busy.f a0).bind fun t152 => ((pantryref17_Busy.f a0).bind fun t153 => (if (t152 == t153) = true then ((status_Name.f a0).bind fun t154 => ((pantryref17_Name.f a0).bind fun t155 => (some (t154.toList == t155.toList)))) else (some false)))) else (some false)))) else (some false)))) else (some false)) = some r := H
      have A9 := Aside0.mk A90
      clear A90
      by_cases c10 : t146 = t147
      · rw [if_pos c10] at H
        have c10b0 : (t146 == t147) = true := beq_iff_eq.mpr c10
        have c10b1 : (t146 != t147) = false := bne_eq_false_iff_eq.mpr c10
        clear c10
        replace H := Option.bind_eq_some_iff.mp H
        obtain ⟨t148, A110, H⟩ := H
        replace H : ((pantryref17_Finish.f a0 a1).bind fun t149 => (if t148 = t149 then ((status_Should.f a0 a1).bind fun t150 => ((pantryref17_Should.f a0 a1).bind fun t151 => (if (t150 == t151) = true then ((status_Busy.f a0).bind fun t152 => ((pantryref17_Busy.f a0).bind fun t153 => (if (t152 == t153) = true then ((status_Name.f a0).bind fun t154 => ((pantryref17_Name.f a0).bind fun t155 => (some (t154.toList == t155.toList)))) else (some false)))) else (some false)))) else (some false))) = some r := H
        have A11 := Aside0.mk A110
        clear A110
        replace H := Option.bind_eq_some_iff.mp H
        obtain ⟨t149, A120, H⟩ := H
        replace H : (if t148 = t149 then ((status_Should.f a0 a1).bind fun t150 => ((pantryref17_Should.f a0 a1).bind fun t151 => (if (t150 == t151) = true then ((status_Busy.f a0).bind fun t152 => ((pantryref17_Busy.f a0).bind fun t153 => (if (t152 == t153) = true then ((status_Name.f a0).bind fun t154 => ((pantryref17_Name.f a0).bind fun t155 => (some (t154.toList == t155.toList)))) else (some false)))) else (some false)))) else (some false)) = some r := H
        have A12 := Aside0.mk A120
        clear A120
        by_cases c13 : t148 = t149
        · rw [if_pos c13] at H
          have c13b0 : (t148 == t149) = true := beq_iff_eq.mpr c13
          have c13b1 : (t148 != t149) = false := bne_eq_false_iff_eq.mpr c13
          clear c13
          replace H := Option.bind_eq_some_iff.mp H
          obtain ⟨t150, A140, H⟩ := H
          replace H : ((pantryref17_Should.f a0 a1).bind fun t151 => (if (t150 == t151) = true then ((status_Busy.f a0).bind fun t152 => ((pantryref17_Busy.f a0).bind fun t153 => (if (t152 == t153) = true then ((status_Name.f a0).bind fun t154 => ((pantryref17_Name.f a0).bind fun t155 => (some (t154.toList == t155.toList)))) else (some false)))) else (some false))) = some r := H
          have A14 := Aside0.mk A140
          clear A140
          replace H := Option.bind_eq_some_iff.mp H
          obtain ⟨t151, A150, H⟩ := H
          replace H : (if (t150 == t151) = true then ((status_Busy.f a0).bind fun t152 => ((pantryref17_Busy.f a0).bind fun t153 => (if (t152 == t153) = true then ((status_Name.f a0).bind fun t154 => ((pantryref17_Name.f a0).bind fun t155 => (some (t154.toList == t155.toList)))) else (some false)))) else (some false)) = some r := H
          have A15 := Aside0.mk A150
          clear A150
          by_cases c16 : (t150 == t151) = true
          · rw [if_pos c16] at H
            have c16b0 : (t150 == t151) = true := c16
            (try (have c16b1 : decide (t150 = t151) = true := by simpa using c16))
            (try (have c16b2 : (t150 == t151) = true := by simpa using c16))
            clear c16
            replace H := Option.bind_eq_some_iff.mp H
            obtain ⟨t152, A170, H⟩ := H
            replace H : ((pantryref17_Busy.f a0).bind fun t153 => (if (t152 == t153) = true then ((status_Name.f a0).bind fun t154 => ((pantryref17_Name.f a0).bind fun t155 => (some (t154.toList == t155.toList)))) else (some false))) = some r := H
            have A17 := Aside0.mk A170
            clear A170
            replace H := Option.bind_eq_some_iff.mp H
            obtain ⟨t153, A180, H⟩ := H
            replace H : (if (t152 == t153) = true then ((status_Name.f a0).bind fun t154 => ((pantryref17_Name.f a0).bind fun t155 => (some (t154.toList == t155.toList)))) else (some false)) = some r := H
            have A18 := Aside0.mk A180
            clear A180
            by_cases c19 : (t152 == t153) = true
            · rw [if_pos c19] at H
              have c19b0 : (t152 == t153) = true := c19
              (try (have c19b1 : decide (t152 = t153) = true := by simpa using c19))
              (try (have c19b2 : (t152 == t153) = true := by simpa using c19))
              clear c19
              replace H := Option.bind_eq_some_iff.mp H
              obtain ⟨t154, A200, H⟩ := H
              replace H : ((pantryref17_Name.f a0).bind fun t155 => (some (t154.toList == t155.toList))) = some r := H
              have A20 := Aside0.mk A200
              clear A200
              replace H := Option.bind_eq_some_iff.mp H
              obtain ⟨t155, A210, H⟩ := H
              replace H : (some (t154.toList == t155.toList)) = some r := H
              have A21 := Aside0.mk A210
              clear A210
              obtain rfl := Option.some.inj H
              go_enter Try.func3, Try.ntmps3
              go_wp2_with (first | ((with_reducible refine gate_callee (f := 8) rfl ?_); refine goesL_ (some 7) rfl rfl Try.func8 (by kernel_rfl) rfl #[] rfl (by (try simp only [List.map_toArray, List.map_cons, List.map_nil]); first | done | rfl | (simp only [List.length_drop, List.length_take]; rfl)) ?_; (with_reducible refine (pantrylaw17_small.calls k  true _ A3.out).mono ?_); rintro e w22 ⟨rfl, hb⟩; refine ⟨_, rfl, ?_⟩; have n0_ := Aside0.mk (below_step (by repeat (first | (with_reducible first | exact HB.out | apply below_alloc | apply pw_below_drewN | apply below_drew1) | exact HB.out)) hb); clear HB; have HB := n0_; clear n0_; (try clear hb); (try clear hb2); (try clear hk); (try clear hi)) | (go_at_call 9; (with_reducible refine (status_Wrote.calls a0 t144 _ A5.out).mono ?_); rintro e w' ⟨rfl, ⟨nd, rfl⟩⟩) | (go_at_call 10; (with_reducible refine (pantryref17_Wrote.calls a0 t145 _ A6.out).mono ?_); rintro e w' ⟨rfl, ⟨nd, rfl⟩⟩) | (go_at_call 11; (with_reducible refine (status_Start.calls a0 t146 _ A8.out).mono ?_); rintro e w' ⟨rfl, ⟨nd, rfl⟩⟩) | (go_at_call 12; (with_reducible refine (pantryref17_Start.calls a0 t147 _ A9.out).mono ?_); rintro e w' ⟨rfl, ⟨nd, rfl⟩⟩) | (go_at_call 13; (with_reducible refine (status_Finish.calls k a0 a1 t148 _ A11.out).mono ?_); rintro e w' ⟨rfl, ⟨nd, rfl⟩⟩) | (go_at_call 14; (with_reducible refine (pantryref17_Finish.calls a0 a1 t149 _ A12.out).mono ?_); rintro e w' ⟨rfl, ⟨nd, rfl⟩⟩) | (go_at_call 15; (with_reducible refine (status_Should.calls a0 a1 t150 _ A14.out).mono ?_); rintro e w' ⟨rfl, ⟨nd, rfl⟩⟩) | (go_at_call 16; (with_reducible refine (pantryref17_Should.calls a0 a1 t151 _ A15.out).mono ?_); rintro e w' ⟨rfl, ⟨nd, rfl⟩⟩) | (go_at_call 17; (with_reducible refine (status_Busy.calls a0 t152 _ A17.out).mono ?_); rintro e w' ⟨rfl, ⟨nd, rfl⟩⟩) | (go_at_call 18; (with_reducible refine (pantryref17_Busy.calls a0 t153 _ A18.out).mono ?_); rintro e w' ⟨rfl, ⟨nd, rfl⟩⟩) | (go_at_call 19; (with_reducible refine (status_Name.calls a0 t154 _ A20.out).mono ?_); rintro e w' ⟨rfl, ⟨nd, rfl⟩⟩) | (go_at_call 20; (with_reducible refine (pantryref17_Name.calls a0 t155 _ A21.out).mono ?_); rintro e w' ⟨rfl, ⟨nd, rfl⟩⟩))
              go_ret
              exact ⟨by first | rfl | (simp [errW_none, errW_some] <;> rfl) | (simp [*, errW_none, errW_some] <;> rfl), by repeat (first | (with_reducible first | exact HB.out | apply below_alloc | apply pw_below_drewN | apply below_drew1) | exact HB.out)⟩
            · rw [if_neg c19] at H
              have c19b0 : (t152 == t153) = false := by simpa using c19
              (try (have c19b1 : decide (t152 = t153) = false := by simpa using c19))
              (try (have c19b2 : (t152 == t153) = false := by simpa using c19))
              (try (have c19b3 : ¬ (t152 = t153) := by simpa using c19))
              clear c19
              obtain rfl := Option.some.inj H
              go_enter Try.func3, Try.ntmps3
              go_wp2_with (first | ((with_reducible refine gate_callee (f := 8) rfl ?_); refine goesL_ (some 7) rfl rfl Try.func8 (by kernel_rfl) rfl #[] rfl (by (try simp only [List.map_toArray, List.map_cons, List.map_nil]); first | done | rfl | (simp only [List.length_drop, List.length_take]; rfl)) ?_; (with_reducible refine (pantrylaw17_small.calls k  true _ A3.out).mono ?_); rintro e w23 ⟨rfl, hb⟩; refine ⟨_, rfl, ?_⟩; have n0_ := Aside0.mk (below_step (by repeat (first | (with_reducible first | exact HB.out | apply below_alloc | apply pw_below_drewN | apply below_drew1) | exact HB.out)) hb); clear HB; have HB := n0_; clear n0_; (try clear hb); (try clear hb2); (try clear hk); (try clear hi)) | (go_at_call 9; (with_reducible refine (status_Wrote.calls a0 t144 _ A5.out).mono ?_); rintro e w' ⟨rfl, ⟨nd, rfl⟩⟩) | (go_at_call 10; (with_reducible refine (pantryref17_Wrote.calls a0 t145 _ A6.out).mono ?_); rintro e w' ⟨rfl, ⟨nd, rfl⟩⟩) | (go_at_call 11; (with_reducible refine (status_Start.calls a0 t146 _ A8.out).mono ?_); rintro e w' ⟨rfl, ⟨nd, rfl⟩⟩) | (go_at_call 12; (with_reducible refine (pantryref17_Start.calls a0 t147 _ A9.out).mono ?_); rintro e w' ⟨rfl, ⟨nd, rfl⟩⟩) | (go_at_call 13; (with_reducible refine (status_Finish.calls k a0 a1 t148 _ A11.out).mono ?_); rintro e w' ⟨rfl, ⟨nd, rfl⟩⟩) | (go_at_call 14; (with_reducible refine (pantryref17_Finish.calls a0 a1 t149 _ A12.out).mono ?_); rintro e w' ⟨rfl, ⟨nd, rfl⟩⟩) | (go_at_call 15; (with_reducible refine (status_Should.calls a0 a1 t150 _ A14.out).mono ?_); rintro e w' ⟨rfl, ⟨nd, rfl⟩⟩) | (go_at_call 16; (with_reducible refine (pantryref17_Should.calls a0 a1 t151 _ A15.out).mono ?_); rintro e w' ⟨rfl, ⟨nd, rfl⟩⟩) | (go_at_call 17; (with_reducible refine (status_Busy.calls a0 t152 _ A17.out).mono ?_); rintro e w' ⟨rfl, ⟨nd, rfl⟩⟩) | (go_at_call 18; (with_reducible refine (pantryref17_Busy.calls a0 t153 _ A18.out).mono ?_); rintro e w' ⟨rfl, ⟨nd, rfl⟩⟩))
              go_ret
              exact ⟨by first | rfl | (simp [errW_none, errW_some] <;> rfl) | (simp [*, errW_none, errW_some] <;> rfl), by repeat (first | (with_reducible first | exact HB.out | apply below_alloc | apply pw_below_drewN | apply below_drew1) | exact HB.out)⟩
          · rw [if_neg c16] at H
            have c16b0 : (t150 == t151) = false := by simpa using c16
            (try (have c16b1 : decide (t150 = t151) = false := by simpa using c16))
            (try (have c16b2 : (t150 == t151) = false := by simpa using c16))
            (try (have c16b3 : ¬ (t150 = t151) := by simpa using c16))
            clear c16
            obtain rfl := Option.some.inj H
            go_enter Try.func3, Try.ntmps3
            go_wp2_with (first | ((with_reducible refine gate_callee (f := 8) rfl ?_); refine goesL_ (some 7) rfl rfl Try.func8 (by kernel_rfl) rfl #[] rfl (by (try simp only [List.map_toArray, List.map_cons, List.map_nil]); first | done | rfl | (simp only [List.length_drop, List.length_take]; rfl)) ?_; (with_reducible refine (pantrylaw17_small.calls k  true _ A3.out).mono ?_); rintro e w24 ⟨rfl, hb⟩; refine ⟨_, rfl, ?_⟩; have n0_ := Aside0.mk (below_step (by repeat (first | (with_reducible first | exact HB.out | apply below_alloc | apply pw_below_drewN | apply below_drew1) | exact HB.out)) hb); clear HB; have HB := n0_; clear n0_; (try clear hb); (try clear hb2); (try clear hk); (try clear hi)) | (go_at_call 9; (with_reducible refine (status_Wrote.calls a0 t144 _ A5.out).mono ?_); rintro e w' ⟨rfl, ⟨nd, rfl⟩⟩) | (go_at_call 10; (with_reducible refine (pantryref17_Wrote.calls a0 t145 _ A6.out).mono ?_); rintro e w' ⟨rfl, ⟨nd, rfl⟩⟩) | (go_at_call 11; (with_reducible refine (status_Start.calls a0 t146 _ A8.out).mono ?_); rintro e w' ⟨rfl, ⟨nd, rfl⟩⟩) | (go_at_call 12; (with_reducible refine (pantryref17_Start.calls a0 t147 _ A9.out).mono ?_); rintro e w' ⟨rfl, ⟨nd, rfl⟩⟩) | (go_at_call 13; (with_reducible refine (status_Finish.calls k a0 a1 t148 _ A11.out).mono ?_); rintro e w' ⟨rfl, ⟨nd, rfl⟩⟩) | (go_at_call 14; (with_reducible refine (pantryref17_Finish.calls a0 a1 t149 _ A12.out).mono ?_); rintro e w' ⟨rfl, ⟨nd, rfl⟩⟩) | (go_at_call 15; (with_reducible refine (status_Should.calls a0 a1 t150 _ A14.out).mono ?_); rintro e w' ⟨rfl, ⟨nd, rfl⟩⟩) | (go_at_call 16; (with_reducible refine (pantryref17_Should.calls a0 a1 t151 _ A15.out).mono ?_); rintro e w' ⟨rfl, ⟨nd, rfl⟩⟩))
            go_ret
            exact ⟨by first | rfl | (simp [errW_none, errW_some] <;> rfl) | (simp [*, errW_none, errW_some] <;> rfl), by repeat (first | (with_reducible first | exact HB.out | apply below_alloc | apply pw_below_drewN | apply below_drew1) | exact HB.out)⟩
        · rw [if_neg c13] at H
          have c13b0 : (t148 == t149) = false := beq_eq_false_iff_ne.mpr c13
          have c13b1 : (t148 != t149) = true := bne_iff_ne.mpr c13
          obtain rfl := Option.some.inj H
          go_enter Try.func3, Try.ntmps3
          go_wp2_with (first | ((with_reducible refine gate_callee (f := 8) rfl ?_); refine goesL_ (some 7) rfl rfl Try.func8 (by kernel_rfl) rfl #[] rfl (by (try simp only [List.map_toArray, List.map_cons, List.map_nil]); first | done | rfl | (simp only [List.length_drop, List.length_take]; rfl)) ?_; (with_reducible refine (pantrylaw17_small.calls k  true _ A3.out).mono ?_); rintro e w25 ⟨rfl, hb⟩; refine ⟨_, rfl, ?_⟩; have n0_ := Aside0.mk (below_step (by repeat (first | (with_reducible first | exact HB.out | apply below_alloc | apply pw_below_drewN | apply below_drew1) | exact HB.out)) hb); clear HB; have HB := n0_; clear n0_; (try clear hb); (try clear hb2); (try clear hk); (try clear hi)) | (go_at_call 9; (with_reducible refine (status_Wrote.calls a0 t144 _ A5.out).mono ?_); rintro e w' ⟨rfl, ⟨nd, rfl⟩⟩) | (go_at_call 10; (with_reducible refine (pantryref17_Wrote.calls a0 t145 _ A6.out).mono ?_); rintro e w' ⟨rfl, ⟨nd, rfl⟩⟩) | (go_at_call 11; (with_reducible refine (status_Start.calls a0 t146 _ A8.out).mono ?_); rintro e w' ⟨rfl, ⟨nd, rfl⟩⟩) | (go_at_call 12; (with_reducible refine (pantryref17_Start.calls a0 t147 _ A9.out).mono ?_); rintro e w' ⟨rfl, ⟨nd, rfl⟩⟩) | (go_at_call 13; (with_reducible refine (status_Finish.calls k a0 a1 t148 _ A11.out).mono ?_); rintro e w' ⟨rfl, ⟨nd, rfl⟩⟩) | (go_at_call 14; (with_reducible refine (pantryref17_Finish.calls a0 a1 t149 _ A12.out).mono ?_); rintro e w' ⟨rfl, ⟨nd, rfl⟩⟩))
          go_ret
          exact ⟨by first | rfl | (simp [errW_none, errW_some] <;> rfl) | (simp [*, errW_none, errW_some] <;> rfl), by repeat (first | (with_reducible first | exact HB.out | apply below_alloc | apply pw_below_drewN | apply below_drew1) | exact HB.out)⟩
      · rw [if_neg c10] at H
        have c10b0 : (t146 == t147) = false := beq_eq_false_iff_ne.mpr c10
        have c10b1 : (t146 != t147) = true := bne_iff_ne.mpr c10
        obtain rfl := Option.some.inj H
        go_enter Try.func3, Try.ntmps3
        go_wp2_with (first | ((with_reducible refine gate_callee (f := 8) rfl ?_); refine goesL_ (some 7) rfl rfl Try.func8 (by kernel_rfl) rfl #[] rfl (by (try simp only [List.map_toArray, List.map_cons, List.map_nil]); first | done | rfl | (simp only [List.length_drop, List.length_take]; rfl)) ?_; (with_reducible refine (pantrylaw17_small.calls k  true _ A3.out).mono ?_); rintro e w26 ⟨rfl, hb⟩; refine ⟨_, rfl, ?_⟩; have n0_ := Aside0.mk (below_step (by repeat (first | (with_reducible first | exact HB.out | apply below_alloc | apply pw_below_drewN | apply below_drew1) | exact HB.out)) hb); clear HB; have HB := n0_; clear n0_; (try clear hb); (try clear hb2); (try clear hk); (try clear hi)) | (go_at_call 9; (with_reducible refine (status_Wrote.calls a0 t144 _ A5.out).mono ?_); rintro e w' ⟨rfl, ⟨nd, rfl⟩⟩) | (go_at_call 10; (with_reducible refine (pantryref17_Wrote.calls a0 t145 _ A6.out).mono ?_); rintro e w' ⟨rfl, ⟨nd, rfl⟩⟩) | (go_at_call 11; (with_reducible refine (status_Start.calls a0 t146 _ A8.out).mono ?_); rintro e w' ⟨rfl, ⟨nd, rfl⟩⟩) | (go_at_call 12; (with_reducible refine (pantryref17_Start.calls a0 t147 _ A9.out).mono ?_); rintro e w' ⟨rfl, ⟨nd, rfl⟩⟩))
        go_ret
        exact ⟨by first | rfl | (simp [errW_none, errW_some] <;> rfl) | (simp [*, errW_none, errW_some] <;> rfl), by repeat (first | (with_reducible first | exact HB.out | apply below_alloc | apply pw_below_drewN | apply below_drew1) | exact HB.out)⟩
    · rw [if_neg c7] at H
      have c7b0 : (t144 == t145) = false := beq_eq_false_iff_ne.mpr c7
      have c7b1 : (t144 != t145) = true := bne_iff_ne.mpr c7
      obtain rfl := Option.some.inj H
      go_enter Try.func3, Try.ntmps3
      go_wp2_with (first | ((with_reducible refine gate_callee (f := 8) rfl ?_); refine goesL_ (some 7) rfl rfl Try.func8 (by kernel_rfl) rfl #[] rfl (by (try simp only [List.map_toArray, List.map_cons, List.map_nil]); first | done | rfl | (simp only [List.length_drop, List.length_take]; rfl)) ?_; (with_reducible refine (pantrylaw17_small.calls k  true _ A3.out).mono ?_); rintro e w27 ⟨rfl, hb⟩; refine ⟨_, rfl, ?_⟩; have n0_ := Aside0.mk (below_step (by repeat (first | (with_reducible first | exact HB.out | apply below_alloc | apply pw_below_drewN | apply below_drew1) | exact HB.out)) hb); clear HB; have HB := n0_; clear n0_; (try clear hb); (try clear hb2); (try clear hk); (try clear hi)) | (go_at_call 9; (with_reducible refine (status_Wrote.calls a0 t144 _ A5.out).mono ?_); rintro e w' ⟨rfl, ⟨nd, rfl⟩⟩) | (go_at_call 10; (with_reducible refine (pantryref17_Wrote.calls a0 t145 _ A6.out).mono ?_); rintro e w' ⟨rfl, ⟨nd, rfl⟩⟩))
      go_ret
      exact ⟨by first | rfl | (simp [errW_none, errW_some] <;> rfl) | (simp [*, errW_none, errW_some] <;> rfl), by repeat (first | (with_reducible first | exact HB.out | apply below_alloc | apply pw_below_drewN | apply below_drew1) | exact HB.out)⟩
  · replace c4 := Bool.eq_false_iff.mpr c4
    subst c4
    have H1 : (some false) = some r := by rw [if_neg (show ¬ (false = true) by decide)] at H; exact H
    clear H
    have H := H1
    clear H1
    obtain rfl := Option.some.inj H
    go_enter Try.func3, Try.ntmps3
    go_wp2_with (first | ((with_reducible refine gate_callee (f := 8) rfl ?_); refine goesL_ (some 7) rfl rfl Try.func8 (by kernel_rfl) rfl #[] rfl (by (try simp only [List.map_toArray, List.map_cons, List.map_nil]); first | done | rfl | (simp only [List.length_drop, List.length_take]; rfl)) ?_; (with_reducible refine (pantrylaw17_small.calls k  false _ A3.out).mono ?_); rintro e w28 ⟨rfl, hb⟩; refine ⟨_, rfl, ?_⟩; have n0_ := Aside0.mk (below_step (by repeat (first | (with_reducible first | exact HB.out | apply below_alloc | apply pw_below_drewN | apply below_drew1) | exact HB.out)) hb); clear HB; have HB := n0_; clear n0_; (try clear hb); (try clear hb2); (try clear hk); (try clear hi)))
    go_ret
    exact ⟨by first | rfl | (simp [errW_none, errW_some] <;> rfl) | (simp [*, errW_none, errW_some] <;> rfl), by repeat (first | (with_reducible first | exact HB.out | apply below_alloc | apply pw_below_drewN | apply below_drew1) | exact HB.out)⟩

/-- THE ONE PURE STATEMENT of pantrylaw17_StatusTells: yours. -/
def pantrylaw17_StatusTells.Pure : Prop := ∀ (a0 : Int) (a1 : Bool), (Lit.int .i64 a0).wf = true → ∃ k, pantrylaw17_StatusTells.f k a0 a1 = some true
theorem pantrylaw17_StatusTells.walk (P : pantrylaw17_StatusTells.Pure) (a0 : Int) (a1 : Bool) (w : World) (w0 : (Lit.int .i64 a0).wf = true) :
    Calls Try.prog 3 #[.int .i64 a0, .bool a1] w fun e w' => e = .returned (.bool true) ∧ Below w.heap.size w w' := by
  obtain ⟨k, h⟩ := P a0 a1 w0
  refine (pantrylaw17_StatusTells.calls k a0 a1 true w h).mono ?_
  rintro e w' ⟨rfl, hd⟩
  exact ⟨rfl, hd⟩

end Go.Proofs.Ythnkpglljmglaaa.OS

/- The statements' small case comes out right. Condition: errors.errorType holds the type error. -/
import Derived.Test.YtahbigcjlindeaaDoorAll
import Derived.Deep.RegionHeld3
namespace Go.Proofs.YtahbigcjlindeaaDoor.W
open Go.RowKit
attribute [local go_sem] World.setCell_drew
set_option linter.unusedSimpArgs false
set_option linter.unusedVariables false

theorem cell_new {w : World} {cs : Array Value} {t : TypeId} {j : Nat} {v : Value} (h : cs[j]? = some v) : (w.alloc (.cells cs t)).cell? ⟨w.heap.size, j, none⟩ = some v := by
  unfold World.cell?
  rw [heapNew]
  exact h
def ones (i : Nat) : Int := (i : Int) + 1
theorem row123 (w : World) (t : TypeId) : Row (w.alloc (.cells #[.int .i64 1, .int .i64 2, .int .i64 3] t)) (some ⟨w.heap.size, 0, none⟩) 3 ones := fun i hi => by
  refine ⟨_, rfl, ?_⟩
  match i, hi with
  | 0, _ => exact cell_new rfl
  | 1, _ => exact cell_new rfl
  | 2, _ => exact cell_new rfl
theorem row12 (w : World) (t : TypeId) : Row (w.alloc (.cells #[.int .i64 1, .int .i64 2] t)) (some ⟨w.heap.size, 0, none⟩) 2 ones := fun i hi => by
  refine ⟨_, rfl, ?_⟩
  match i, hi with
  | 0, _ => exact cell_new rfl
  | 1, _ => exact cell_new rfl
set_option maxHeartbeats 4000000 in
set_option maxRecDepth 100000 in
theorem small_any (w : World) (het : Err.ErrType w) : Calls Tryd.prog 8 #[] w fun e w' => e = .returned (.bool true) ∧ Below w.heap.size w w' := by
  have HET := Lib.hid het
  clear het
  go_enter Tryd.func8, Tryd.ntmps8
  go_wp2_with fail
  refine (admit_heavy 7 9 5 _ (by omega) (by omega) (by omega) (by omega)).mono ?_
  rintro e w1 ⟨rfl, hw1⟩
  have F1 : Hid (FaultAt w1 w.heap.size 4 7 9) := Lib.hid (by rw [← hw1]; exact heapNew _ _)
  have B1 : Hid (Below w.heap.size w w1) := Lib.hid (by rw [← hw1]; exact (Below.refl _ _).alloc (Nat.le_refl _) _)
  clear hw1
  go_wp2_with fail
  refine (reason_heavy _ 7 9 _ (errType_kept HET.out B1.out) F1.out).mono ?_
  rintro e w2 ⟨rfl, hb2⟩
  have B2 := Lib.hid (B1.out.trans (hb2.mono B1.out.size))
  clear hb2
  go_wp2_with fail
  refine (admit_arg 7 (-1) 5 _ (by omega)).mono ?_
  rintro e w3 ⟨rfl, hw3⟩
  have F3 : Hid (FaultAt w3 w2.heap.size 1 7 (-1)) := Lib.hid (by rw [← hw3]; exact heapNew _ _)
  have B3 : Hid (Below w.heap.size w w3) := Lib.hid (by rw [← hw3]; exact B2.out.alloc B2.out.size _)
  clear hw3
  go_wp2_with fail
  refine (reason_other _ 1 7 (-1) _ F3.out (by decide)).mono ?_
  rintro e w4 ⟨rfl, hb4⟩
  have B4 := Lib.hid (B3.out.trans (hb4.mono B3.out.size))
  clear hb4
  go_wp2_with fail
  refine (reason_nil _).mono ?_
  rintro e w5 ⟨rfl, hb5⟩
  have B5 := Lib.hid (B4.out.trans (hb5.mono B4.out.size))
  clear hb5
  go_wp2_with fail
  have hrow := row123 w5 3
  have ht := total_any _ 3 3 ones _ (by omega) hrow
  have h6 : tot ones 3 0 0 = (6, 0, 0) := by decide +kernel
  rw [h6] at ht
  clear h6 hrow
  refine ht.mono ?_
  rintro e w6 ⟨h6, -⟩
  obtain ⟨rfl, hw6⟩ := h6 rfl
  have B6 : Hid (Below w.heap.size w w6) := Lib.hid (by rw [← hw6]; exact B5.out.alloc B5.out.size _)
  clear h6 hw6 ht
  go_wp2_with fail
  refine (admit_ok 7 5 5 _ (by omega) (by omega) (by omega) (by omega) (by omega)).mono ?_
  rintro e w7 ⟨rfl, rfl⟩
  go_wp2_with fail
  refine (all_any _ 2 2 ones none 0 0 (fun _ => 0) 0 _ (by omega) (by omega) (row12 w6 3) (fun i hi => by omega)).mono ?_
  rintro e w8 ⟨A, c, Es, rfl, hS⟩
  have B8 := Lib.hid (B6.out.trans (((below_alloc _ _).trans (hS.below.mono (below_alloc _ _).size)).mono B6.out.size))
  clear hS
  go_wp2_with fail
  go_ret
  exact ⟨rfl, B8.out⟩
end Go.Proofs.YtahbigcjlindeaaDoor.W

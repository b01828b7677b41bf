/- WeighGrows, walked. Condition: errors.errorType holds the type error. -/
import Derived.Test.YtahbigcjlindeaaDoorSmall
namespace Go.Proofs.YtahbigcjlindeaaDoor.W
open Go.RowKit
attribute [local go_sem] World.setCell_drew
set_option linter.unusedSimpArgs false
set_option linter.unusedVariables false

theorem admit_yesB (k x c : Int) (w : World) (h0 : 0 ≤ x) (h1 : 0 ≤ c) (h2 : c ≤ 4611686018427387903) (h3 : x ≤ c) (h4 : x ≤ 2147483648) : Calls Tryd.prog 9 #[.int .i64 k, .int .i64 x, .int .i64 c] w fun e w' => e = .returned .nilIface ∧ Below w.heap.size w w' :=
  (admit_ok k x c w h0 h1 h2 h3 h4).mono fun e w' ⟨h1, h2⟩ => ⟨h1, h2 ▸ Below.refl _ _⟩
theorem admit_noB (k x c : Int) (w : World) (h : adm x c ≠ 0) : Calls Tryd.prog 9 #[.int .i64 k, .int .i64 x, .int .i64 c] w fun e w' => e = .returned (.iface 48 (.pointer (some ⟨w.heap.size, 0, none⟩))) ∧ Below w.heap.size w w' :=
  (admit_no k x c w h).mono fun e w' ⟨h1, h2⟩ => ⟨h1, h2 ▸ below_alloc _ _⟩
set_option maxHeartbeats 4000000 in
set_option maxRecDepth 100000 in
theorem grows_any (key weight cap more less : Int) (w : World) (het : Err.ErrType w) : Calls Tryd.prog 3 #[.int .i64 key, .int .i64 weight, .int .i64 cap, .int .i64 more, .int .i64 less] w fun e w' => e = .returned (.bool true) ∧ Below w.heap.size w w' := by
  have HET := Lib.hid het
  clear het
  by_cases h0 : adm weight cap = 0
  · obtain ⟨a0, a1, a2, a3, a4⟩ := adm_ok h0
    clear h0
    go_enter Tryd.func3, Tryd.ntmps3
    go_wp2_with fail
    refine (small_any _ HET.out).mono ?_
    rintro e w1 ⟨rfl, hb1⟩
    have B1 := Lib.hid hb1
    clear hb1
    go_wp2_with fail
    refine (admit_ok key weight cap _ a0 a1 a2 a3 a4).mono ?_
    rintro e w' ⟨rfl, rfl⟩
    by_cases c1 : more < 0
    · go_wp2_with fail
      go_ret
      exact ⟨rfl, B1.out⟩
    by_cases c2 : 4611686018427387903 - cap < more
    · go_wp2_with fail
      go_ret
      exact ⟨rfl, B1.out⟩
    by_cases c3 : less < 0
    · go_wp2_with fail
      go_ret
      exact ⟨rfl, B1.out⟩
    by_cases c4 : weight < less
    · go_wp2_with fail
      go_ret
      exact ⟨rfl, B1.out⟩
    go_wp2_with fail
    refine (admit_ok _ weight (cap + more) _ (by omega) (by omega) (by omega) (by omega) (by omega)).mono ?_
    rintro e w' ⟨rfl, rfl⟩
    go_wp2_with fail
    refine (admit_ok _ (weight - less) cap _ (by omega) (by omega) (by omega) (by omega) (by omega)).mono ?_
    rintro e w' ⟨rfl, rfl⟩
    go_wp2_with fail
    refine (admit_ok _ 0 cap _ (by omega) (by omega) (by omega) (by omega) (by omega)).mono ?_
    rintro e w' ⟨rfl, rfl⟩
    go_wp2_with fail
    refine (admit_noB _ (-1) cap _ (by unfold adm; rw [if_pos (by omega)]; decide)).mono ?_
    rintro e w2 ⟨rfl, hb2⟩
    have B2 := Lib.hid (B1.out.trans (hb2.mono B1.out.size))
    clear hb2
    go_wp2_with fail
    refine (admit_noB _ (cap + 1) cap _ (by unfold adm; rw [if_neg (by omega), if_pos (by omega)]; decide)).mono ?_
    rintro e w3 ⟨rfl, hb3⟩
    have B3 := Lib.hid (B2.out.trans (hb3.mono B2.out.size))
    clear hb3
    go_wp2_with fail
    go_ret
    exact ⟨rfl, B3.out⟩
  · go_enter Tryd.func3, Tryd.ntmps3
    have H0 := Lib.hid h0
    clear h0
    go_wp2_with fail
    refine (small_any _ HET.out).mono ?_
    rintro e w1 ⟨rfl, hb1⟩
    have B1 := Lib.hid hb1
    clear hb1
    go_wp2_with fail
    refine (admit_noB key weight cap _ H0.out).mono ?_
    rintro e w2 ⟨rfl, hb2⟩
    have B2 := Lib.hid (B1.out.trans (hb2.mono B1.out.size))
    clear hb2
    go_wp2_with fail
    go_ret
    exact ⟨rfl, B2.out⟩
end Go.Proofs.YtahbigcjlindeaaDoor.W

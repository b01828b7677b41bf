/- WeighAdmits, walked. Conditions: errors.errorType holds the type error; the table's cells are known; the numbers are int64s. -/
import Derived.Test.YtahbigcjlindeaaDoorSmall
import Derived.Test.YtahbigcjlindeaaDoorFault
namespace Go.Proofs.YtahbigcjlindeaaDoor.W
open Go.RowKit Go.Proofs.YtahbigcjlindeaaDoor.T
attribute [local go_sem] World.setCell_drew
set_option linter.unusedSimpArgs false
set_option linter.unusedVariables false

theorem adm_is (x c : Int) : adm x c = 0 ∨ adm x c = 1 ∨ adm x c = 4 := by
  unfold adm
  split
  · exact .inr (.inl rfl)
  · split
    · exact .inr (.inr rfl)
    · exact .inl rfl
theorem radmit_at {x c n : Int} (h : adm x c = n) (w : World) : Calls Tryd.prog 12 #[.int .i64 x, .int .i64 c] w fun e w' => e = .returned (.int .i64 n) ∧ w = w' := by
  rw [← h]; exact radmit_any x c w
theorem admit_at {k x c n : Int} (h : adm x c = n) (hn : n ≠ 0) (w : World) : Calls Tryd.prog 9 #[.int .i64 k, .int .i64 x, .int .i64 c] w fun e w' => e = .returned (.iface 48 (.pointer (some ⟨w.heap.size, 0, none⟩))) ∧ FaultAt w' w.heap.size n k x ∧ Below w.heap.size w w' :=
  (admit_no k x c w (by rw [h]; exact hn)).mono fun e w' ⟨h1, h2⟩ => ⟨h1, (by rw [← h2, h]; exact heapNew _ _), h2 ▸ below_alloc _ _⟩
theorem i64_lit (n : Int) (h : -9223372036854775808 ≤ n ∧ n ≤ 9223372036854775807) : I64 n := h
set_option maxHeartbeats 4000000 in
set_option maxRecDepth 100000 in
theorem admits_any (T : Nat → Int) (key weight cap : Int) (hk : I64 key) (hx : I64 weight) (w : World) (het : Err.ErrType w) (ht : TabT T w) :
    Calls Tryd.prog 5 #[.int .i64 key, .int .i64 weight, .int .i64 cap] w fun e w' => e = .returned (.bool true) ∧ Below w.heap.size w w' := by
  have HET := Lib.hid het
  have HT := Lib.hid ht
  have HK := Lib.hid hk
  have HX := Lib.hid hx
  clear het ht hk hx
  rcases adm_is weight cap with h | h | h
  · have H := Lib.hid h
    clear h
    go_enter Tryd.func5, Tryd.ntmps5
    go_wp2_with fail
    refine (small_any _ HET.out).mono ?_
    rintro e w1 ⟨rfl, hb1⟩
    have B1 := Lib.hid hb1
    clear hb1
    go_wp2_with fail
    refine (admit_yes key weight cap _ H.out).mono ?_
    rintro e w' ⟨rfl, rfl⟩
    go_wp2_with fail
    refine (radmit_at H.out _).mono ?_
    rintro e w' ⟨rfl, rfl⟩
    go_wp2_with fail
    refine (reason_nil _).mono ?_
    rintro e w4 ⟨rfl, hb4⟩
    have B4 := Lib.hid (B1.out.trans (hb4.mono B1.out.size))
    clear hb4
    have E : Hid (∀ W, Below w.heap.size w W → ErrIs W .nilIface 0 key weight) := Lib.hid fun W _ => .inl ⟨rfl, rfl⟩
    go_wp2_with fail
    refine (reason_errno _ (errType_kept HET.out B4.out)).mono ?_
    rintro e w5 ⟨rfl, hb5⟩
    have B5 := Lib.hid (B4.out.trans (hb5.mono B4.out.size))
    clear hb5
    go_wp2_with fail
    refine (fault_ok T .nilIface 0 key weight (i64_lit _ (by decide)) HK.out HX.out _ (errType_kept HET.out B5.out) (HT.out.kept B5.out) (E.out _ B5.out)).mono ?_
    rintro e w6 ⟨rfl, hb6⟩
    have B6 := Lib.hid (B5.out.trans (hb6.mono B5.out.size))
    clear hb6
    go_wp2_with fail
    go_ret
    exact ⟨rfl, B6.out⟩
  · have H := Lib.hid h
    clear h
    go_enter Tryd.func5, Tryd.ntmps5
    go_wp2_with fail
    refine (small_any _ HET.out).mono ?_
    rintro e w1 ⟨rfl, hb1⟩
    have B1 := Lib.hid hb1
    clear hb1
    go_wp2_with fail
    refine (admit_at H.out (by decide) _).mono ?_
    rintro e w2 ⟨rfl, hf2, hb2⟩
    have F2 := Lib.hid hf2
    have B2 := Lib.hid (B1.out.trans (hb2.mono B1.out.size))
    have s1 := B1.out.size
    clear hf2 hb2
    go_wp2_with fail
    refine (radmit_at H.out _).mono ?_
    rintro e w' ⟨rfl, rfl⟩
    go_wp2_with fail
    refine (reason_other _ 1 key weight _ F2.out (by decide)).mono ?_
    rintro e w4 ⟨rfl, hb4⟩
    have F4 := Lib.hid (F2.out.kept hb4)
    have B4 := Lib.hid (B2.out.trans (hb4.mono B2.out.size))
    clear hb4
    go_wp2_with fail
    refine (reason_errno _ (errType_kept HET.out B4.out)).mono ?_
    rintro e w5 ⟨rfl, hb5⟩
    have F5 := Lib.hid (F4.out.kept hb5)
    have B5 := Lib.hid (B4.out.trans (hb5.mono B4.out.size))
    clear hb5
    go_wp2_with fail
    refine (fault_ok T _ 1 key weight (i64_lit _ (by decide)) HK.out HX.out _ (errType_kept HET.out B5.out) (HT.out.kept B5.out) (.inr ⟨by decide, _, rfl, F5.out⟩)).mono ?_
    rintro e w6 ⟨rfl, hb6⟩
    have B6 := Lib.hid (B5.out.trans (hb6.mono B5.out.size))
    clear hb6
    go_wp2_with fail
    go_ret
    exact ⟨rfl, B6.out⟩
  · have H := Lib.hid h
    clear h
    go_enter Tryd.func5, Tryd.ntmps5
    go_wp2_with fail
    refine (small_any _ HET.out).mono ?_
    rintro e w1 ⟨rfl, hb1⟩
    have B1 := Lib.hid hb1
    clear hb1
    go_wp2_with fail
    refine (admit_at H.out (by decide) _).mono ?_
    rintro e w2 ⟨rfl, hf2, hb2⟩
    have F2 := Lib.hid hf2
    have B2 := Lib.hid (B1.out.trans (hb2.mono B1.out.size))
    have s1 := B1.out.size
    clear hf2 hb2
    go_wp2_with fail
    refine (radmit_at H.out _).mono ?_
    rintro e w' ⟨rfl, rfl⟩
    go_wp2_with fail
    refine (reason_heavy _ key weight _ (errType_kept HET.out B2.out) F2.out).mono ?_
    rintro e w4 ⟨rfl, hb4⟩
    have F4 := Lib.hid (F2.out.kept hb4)
    have B4 := Lib.hid (B2.out.trans (hb4.mono B2.out.size))
    clear hb4
    go_wp2_with fail
    refine (reason_errno _ (errType_kept HET.out B4.out)).mono ?_
    rintro e w5 ⟨rfl, hb5⟩
    have F5 := Lib.hid (F4.out.kept hb5)
    have B5 := Lib.hid (B4.out.trans (hb5.mono B4.out.size))
    clear hb5
    go_wp2_with fail
    refine (fault_ok T _ 4 key weight (i64_lit _ (by decide)) HK.out HX.out _ (errType_kept HET.out B5.out) (HT.out.kept B5.out) (.inr ⟨by decide, _, rfl, F5.out⟩)).mono ?_
    rintro e w6 ⟨rfl, hb6⟩
    have B6 := Lib.hid (B5.out.trans (hb6.mono B5.out.size))
    clear hb6
    go_wp2_with fail
    go_ret
    exact ⟨rfl, B6.out⟩
end Go.Proofs.YtahbigcjlindeaaDoor.W

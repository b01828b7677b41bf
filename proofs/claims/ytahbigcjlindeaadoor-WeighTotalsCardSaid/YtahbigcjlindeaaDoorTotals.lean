/- WeighTotals, walked. Conditions: errors.errorType holds the type error; the table's cells are known; the slice reads as a function of int64s. -/
import Derived.Test.YtahbigcjlindeaaDoorTotalsB
import Derived.Test.YtahbigcjlindeaaDoorAdmits
namespace Go.Proofs.YtahbigcjlindeaaDoor.W
open Go.RowKit Go.Proofs.YtahbigcjlindeaaDoorW.PrintLast Go.Proofs.YtahbigcjlindeaaDoorW.PrintWords Go.Proofs.YtahbigcjlindeaaDoor.T
attribute [local go_sem] World.setCell_drew
set_option linter.unusedSimpArgs false
set_option linter.unusedVariables false

set_option maxHeartbeats 4000000 in
set_option maxRecDepth 100000 in
theorem totals_any (T : Nat → Int) (a : Option Addr) (la ca : Nat) (G : Nat → Int) (hG : ∀ i, I64 (G i)) (w : World) (het : Err.ErrType w) (ht : TabT T w) (hra : Row w a la G) :
    Calls Tryd.prog 6 #[.slice a la ca] w fun e w' => e = .returned (.bool true) ∧ Below w.heap.size w w' := by
  have HET := Lib.hid het
  have HT := Lib.hid ht
  have RA := Lib.hid hra
  have HG := Lib.hid hG
  clear het ht hra hG
  have hK : tot (fun i => (listOf la G).getD i 0) la 0 0 = tot G la 0 0 := tot_congr la 0 0 (fun j _ h => listOf_at _ _ _ (by omega))
  have bd := (tot_bd (G := G) la 0 0 (by omega) (by omega)).2.2
  have hat := totals_much (G := G) la 0 0
  have hpl := tot_place (G := G) la 0 0
  have hs0 := tot_sum0 (G := G) la 0 0
  obtain ⟨X, hX⟩ : ∃ X, tot G la 0 0 = X := ⟨_, rfl⟩
  rw [hX] at hK bd hat hpl hs0
  obtain ⟨s, n, at_⟩ := X
  have HX := Lib.hid hX
  have HKK := Lib.hid hK
  clear hX hK
  simp only at bd hat hpl hs0
  by_cases h1 : (200 : Int) < la
  · go_enter Tryd.func6, Tryd.ntmps6
    go_wp2_with fail
    refine (small_any _ HET.out).mono ?_
    rintro e w1 ⟨rfl, hb1⟩
    have B1 := Lib.hid hb1
    clear hb1
    go_wp2_with fail
    go_ret
    exact ⟨rfl, B1.out⟩
  have hrt := fun (W : World) (hW : Below w.heap.size w W) => rtotal_any a la ca G W (by omega) (RA.out.kept hW)
  rw [HX.out] at hrt
  have HRT := Lib.hid hrt
  clear hrt
  by_cases hn : n = 0
  · subst hn
    obtain rfl : at_ = 0 := hpl rfl
    clear bd hat hpl hs0
    go_enter Tryd.func6, Tryd.ntmps6
    go_wp2_with fail
    refine (small_any _ HET.out).mono ?_
    rintro e w1 ⟨rfl, hb1⟩
    have B1 := Lib.hid hb1
    clear hb1
    go_wp2_with (at_builtin; refine print_append_row (w0 := w) w.heap.size rfl (.tmp 16) (.tmp 17) 27 3 .i64 8 rfl Tryd.underlying27 infoInt (by decide) (.slice (some ⟨w1.heap.size, 0, none⟩) 0 0) [] (listOf la G) a la ca rfl rfl (own_lit w1 w.heap.size 3 .i64 [] B1.out.size (by simp)) ((RA.out.kept (B1.out.alloc B1.out.size _)).reads (by omega)) (B1.out.alloc B1.out.size _) (B1.out.alloc B1.out.size (.cells #[] 3)).size (by simp; omega) ?_; intro v5 w5 hown hbd hgd hat; rw [List.nil_append, listOf_len] at hown; obtain ⟨A6, c6, rfl, hr6⟩ := own_row hown; have R6 := Lib.hid hr6; have B6 := Lib.hid hbd; clear hown hbd hgd hat hr6)
    refine (total_okB A6 c6 _ (by omega) R6.out (s := s) (by rw [HKK.out]) (by rw [HKK.out])).mono ?_
    rintro e w7 ⟨rfl, hb7⟩
    have R7 := Lib.hid (R6.out.kept hb7)
    have B7 := Lib.hid (B6.out.trans (hb7.mono B6.out.size))
    clear hb7
    go_wp2_with fail
    refine (HRT.out _ B7.out).mono ?_
    rintro e w8 ⟨rfl, hb8⟩
    have R8 := Lib.hid (R7.out.kept hb8)
    have B8 := Lib.hid (B7.out.trans (hb8.mono B7.out.size))
    clear hb8
    go_wp2_with fail
    refine (fault_ok T .nilIface 0 0 0 (i64_lit _ (by decide)) (i64_lit _ (by decide)) (i64_lit _ (by decide)) _ (errType_kept HET.out B8.out) (HT.out.kept B8.out) (.inl ⟨rfl, rfl⟩)).mono ?_
    rintro e w9 ⟨rfl, hb9⟩
    have R9 := Lib.hid (R8.out.kept hb9)
    have B9 := Lib.hid (B8.out.trans (hb9.mono B8.out.size))
    clear hb9
    go_wp2_with fail
    refine (ints_any A6 la c6 _ a ca G _ (by omega) R9.out (RA.out.kept B9.out) (fun i hi => listOf_at _ _ _ hi)).mono ?_
    rintro e w10 ⟨rfl, hb10⟩
    have B10 := Lib.hid (B9.out.trans (hb10.mono B9.out.size))
    clear hb10
    go_wp2_with fail
    go_ret
    exact ⟨rfl, B10.out⟩
  · have HN := Lib.hid hn
    have hb0 : (n == 0) = false := beq_eq_false_iff_ne.2 hn
    have HA : Hid (at_ < la) := Lib.hid (by have := hat hn; omega)
    have HI : Hid (I64 n) := Lib.hid (by unfold I64; omega)
    have halt : at_ < la := HA.out
    obtain rfl : s = 0 := hs0 hn
    clear bd hat hpl hs0 hn
    go_enter Tryd.func6, Tryd.ntmps6
    go_wp2_with fail
    refine (small_any _ HET.out).mono ?_
    rintro e w1 ⟨rfl, hb1⟩
    have B1 := Lib.hid hb1
    clear hb1
    go_wp2_with (at_builtin; refine print_append_row (w0 := w) w.heap.size rfl (.tmp 16) (.tmp 17) 27 3 .i64 8 rfl Tryd.underlying27 infoInt (by decide) (.slice (some ⟨w1.heap.size, 0, none⟩) 0 0) [] (listOf la G) a la ca rfl rfl (own_lit w1 w.heap.size 3 .i64 [] B1.out.size (by simp)) ((RA.out.kept (B1.out.alloc B1.out.size _)).reads (by omega)) (B1.out.alloc B1.out.size _) (B1.out.alloc B1.out.size (.cells #[] 3)).size (by simp; omega) ?_; intro v5 w6 hown hbd hgd hat; rw [List.nil_append, listOf_len] at hown; obtain ⟨A6, c6, rfl, hr6⟩ := own_row hown; have R6 := Lib.hid hr6; have B6 := Lib.hid hbd; clear hown hbd hgd hat hr6)
    have hte := total_errB A6 c6 w6 (by omega) R6.out (by rw [HKK.out]; exact HN.out)
    rw [HKK.out] at hte
    refine hte.mono ?_
    rintro e w7 ⟨rfl, hf7, hb7⟩
    have F7 : Hid (FaultAt w7 w6.heap.size n at_ (G at_)) := Lib.hid (by have := hf7; rw [listOf_at _ _ _ HA.out] at this; exact this)
    clear hf7 hte
    have R7 := Lib.hid (R6.out.kept hb7)
    have B7 := Lib.hid (B6.out.trans (hb7.mono B6.out.size))
    clear hb7
    go_wp2_with fail
    refine (HRT.out _ B7.out).mono ?_
    rintro e w8 ⟨rfl, hb8⟩
    have R8 := Lib.hid (R7.out.kept hb8)
    have F8 := Lib.hid (F7.out.kept hb8)
    obtain ⟨ad, rfl, hx⟩ := RA.out.kept (B7.out.trans (hb8.mono B7.out.size)) at_ HA.out
    have B8 := Lib.hid (B7.out.trans (hb8.mono B7.out.size))
    clear hb8
    go_wp2_with fail
    refine (fault_ok T _ n at_ (G at_) HI.out (i64_lit _ (by omega)) (HG.out at_) _ (errType_kept HET.out B8.out) (HT.out.kept B8.out) (.inr ⟨HN.out, _, rfl, F8.out⟩)).mono ?_
    rintro e w9 ⟨rfl, hb9⟩
    have R9 := Lib.hid (R8.out.kept hb9)
    have B9 := Lib.hid (B8.out.trans (hb9.mono B8.out.size))
    clear hb9
    go_wp2_with fail
    refine (ints_any A6 la c6 _ _ ca G _ (by omega) R9.out (RA.out.kept B9.out) (fun i hi => listOf_at _ _ _ hi)).mono ?_
    rintro e w10 ⟨rfl, hb10⟩
    have B10 := Lib.hid (B9.out.trans (hb10.mono B9.out.size))
    clear hb10
    go_wp2_with fail
    go_ret
    exact ⟨rfl, B10.out⟩
end Go.Proofs.YtahbigcjlindeaaDoor.W

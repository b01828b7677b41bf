/- WritesPlay, walked. Conditions: errors.errorType holds the type error; the table's cells are known; the slices read as functions. -/
import Derived.Test.YtlnekfodkeifkaaDoorPlayB
import Derived.Deep.DeepCutAuto
import Derived.Deep.CutBlock
namespace Go.Proofs.YtlnekfodkeifkaaDoor.W
open Go.RowKit Go.Maps Go.Proofs.YtlnekfodkeifkaaDoorW.PrintLast Go.Proofs.YtlnekfodkeifkaaDoorW.PrintWords Go.Proofs.YtlnekfodkeifkaaDoor.OC Go.Proofs.YtlnekfodkeifkaaDoor.T
attribute [local go_sem] World.setCell_drew
set_option linter.unusedSimpArgs false
set_option linter.unusedVariables false

set_option maxHeartbeats 16000000 in
set_option maxRecDepth 100000 in
theorem play_any (T : Nat → Int) (size : Int) (a : Option Addr) (len cap : Nat) (G : Nat → Int) (ae : Option Addr) (ln ce : Nat) (E : Nat → Ev) (w : World) (het : Err.ErrType w) (ht : TabT T w) (hrow : Row w a len G) (hev : EvRow w ae ln E) :
    Calls Tryd.prog 6 #[.int .i64 size, .slice a len cap, .slice ae ln ce] w fun e w' => e = .returned (.bool true) ∧ Below w.heap.size w w' := by
  have HET := Lib.hid het
  have HT := Lib.hid ht
  have HR := Lib.hid hrow
  have HE := Lib.hid hev
  clear het ht hrow hev
  go_enter Tryd.func6, Tryd.ntmps6
  go_wp2_with fail
  refine (small_any _ HET.out).mono ?_
  rintro e w1 ⟨rfl, hbel1⟩
  have E1 := Lib.hid hbel1
  clear hbel1
  go_wp2_with fail
  refine (new_any size _).mono ?_
  rintro e w2 ⟨b, m, rfl, hB2, hb, hm, hbel2⟩
  have hN := ceilV_is size
  have s1 := E1.out.size
  have r2 : Only (fun k => w.heap.size ≤ k) w w2 := ((Only.of_below (S := fun _ => False) E1.out).mono (fun _ h => h.elim)).trans ((Only.of_below (S := fun _ => False) hbel2).mono (fun _ h => h.elim))
  go_wp2_with fail
  refine (rnew_any w.heap.size size _ r2.size).mono ?_
  rintro e w3 ⟨g, rfl, hR3, hbel3⟩
  generalize ceilV size = N at hB2 hN hR3
  have S0 : Hid (PlMid w w3 b m g N 0 [] 0 [] 0 none 0) := Lib.hid ⟨hB2.kept (Only.of_below (S := fun _ => False) hbel3) (fun h => h) (fun h => h), hR3, r2.trans ((Only.of_below (S := fun _ => False) hbel3).mono (fun _ h => h.elim)), fun k h => by rcases h with h | h <;> omega⟩
  clear hB2 hR3 hbel2 hbel3 r2
  by_cases h1 : (200 : Int) < len
  · go_wp2_with fail
    go_ret
    exact ⟨rfl, S0.out.only.below (Nat.le_refl _) (fun _ h => h)⟩
  go_wp2_with fail
  go_loopw [10] (fun v wr => ∃ (k r : Nat) (F : Int) (L : List Ev) (A : Option Addr) (c : Nat), v = .int .i64 k ∧ k ≤ len ∧ 0 ≤ F ∧ F ≤ k ∧ (L.length : Int) + r ≤ N ∧ PlMid w wr b m g N F L r L r A c) (fun v _ => len - (intOf v).toNat)
  case atStart => exact ⟨0, 0, 0, [], none, 0, rfl, by omega, by omega, by omega, by simp; omega, S0.out⟩
  case round =>
    obtain ⟨k, r, F, L, A, c, rfl, hk, hF0, hF1, hsum, hst⟩ := hrel
    rename World => wa
    have SA := Lib.hid hst
    clear hst
    by_cases hlt : k < len
    · obtain ⟨ad, rfl, hx0⟩ := HR.out.kept SA.out.only (fun _ h => h) k (by omega)
      have HX0 := Lib.hid hx0
      clear hx0
      obtain ⟨Ek, hEk⟩ : ∃ Ek : Ev, (if k < ln then E k else ⟨1, k, k, Go.bits .and .i64 k 15⟩) = Ek := ⟨_, rfl⟩
      have HEK := Lib.hid hEk
      clear hEk
      go_wp2_with fail
      refine (event_any _ _).mono ?_
      rintro e wb ⟨rfl, hbb⟩
      have SB := Lib.hid (SA.out.q (Only.of_below hbb))
      have XB := Lib.hid (cell_kept HX0.out (Only.of_below (S := fun _ => False) hbb) (fun h => h))
      clear hbb
      dsimp only [evV]
      go_upto_if 49 with (fail)
      go_cut [11] (fun v11 wc => v11 = .pointer (some ⟨wb.heap.size, 0, none⟩) ∧ Hid (wc = wb.alloc (EvO Ek)))
      case first =>
        by_cases hl : k < ln
        · obtain ⟨ed, rfl, x0, x1, x2, x3⟩ := HE.out.kept SB.out.only (fun _ h => h) k hl
          have hEk := HEK.out
          rw [if_pos hl] at hEk
          rw [hEk] at x0 x1 x2 x3
          clear hEk
          rw [add_field ed (k * 4) 1 (by decide)] at x1
          rw [add_field ed (k * 4) 2 (by decide)] at x2
          rw [add_field ed (k * 4) 3 (by decide)] at x3
          have hO : Only (fun _ => False) wb (wb.alloc (.cells #[.int .i64 1, .int .i64 k, .int .i64 k, .int .i64 (Go.bits .and .i64 k 15)] 32)) := (Only.refl _ _).alloc _
          replace x0 := cell_kept x0 hO (fun h => h)
          replace x1 := cell_kept x1 hO (fun h => h)
          replace x2 := cell_kept x2 hO (fun h => h)
          replace x3 := cell_kept x3 hO (fun h => h)
          clear hO
          go_wp2
          go_meet
          case rel => exact ⟨rfl, Lib.hid rfl⟩
        · have hEk := HEK.out
          rw [if_neg hl] at hEk
          clear HEK
          subst hEk
          go_wp2
          go_meet
          case rel => exact ⟨rfl, Lib.hid rfl⟩
      case rest =>
        obtain ⟨rfl, HWC⟩ := hcut
        have hO : Only (fun _ => False) wb wc := by rw [HWC.out]; exact (Only.refl _ _).alloc _
        have hbx : wc.heap[wb.heap.size]? = some (EvO Ek) := by rw [HWC.out]; exact heapNew _ _
        unfold EvO at hbx
        have SC := Lib.hid (SB.out.q hO)
        have hx := cell_kept XB.out hO (fun h => h)
        have BX := Lib.hid hbx
        have hbs : w.heap.size ≤ wb.heap.size := SB.out.only.size
        have hwt0 := wt_is L
        have hsz : wc.heap.size = wb.heap.size + 1 := by rw [HWC.out]; simp
        have HSZ := Lib.hid hsz
        clear hsz
        have HBL : Hid (∀ k, BM b m k → k < wb.heap.size) := Lib.hid fun k hk => by
          have h1 := SC.out.buf.lt
          have h2 : wc.heap.size = wb.heap.size + 1 := HSZ.out
          have h3 : k ≠ wb.heap.size := fun e => by
            subst e
            rcases hk with hk | hk
            · have := SC.out.buf.block
              rw [← hk, BX.out] at this
              injection this with this
              injection this with _ this
              exact absurd this (by decide)
            · obtain ⟨D, ⟨es, clock, hh, _⟩, _⟩ := SC.out.buf.owns
              rw [← hk, BX.out] at hh
              injection hh with hh
              cases hh
          rcases hk with hk | hk <;> omega
        clear hO hbx HWC XB SB HX0 hwt0
        go_upto_block 2 with (fail)
        go_cut [12, 13, 14, 15, 16, 17, 18, 19, 20, 58] (fun v12 v13 v14 v15 v16 v17 v18 v19 v20 v58 wz => ∃ (r1 : Nat) (F1 : Int) (L1 : List Ev) (A1 : Option Addr) (c1 : Nat), v12 = .bool true ∧ 0 ≤ F1 ∧ F1 ≤ k + 1 ∧ (L1.length : Int) + r1 ≤ N ∧ PlMid w wz b m g N F1 L1 r1 L1 r1 A1 c1)
        case first =>
          by_cases e0 : Go.bits .and .i64 (G k) 3 = 0
          · by_cases hfull : (L.length : Int) + r = N
            · go_wp2_with fail
              refine (reserveB_full SC.out.buf ⟨by omega, by omega, by omega, by omega⟩ hfull).mono ?_
              rintro e wd ⟨rfl, hfd, hbd⟩
              have SD := Lib.hid (SC.out.q (Only.of_below hbd))
              have FD := Lib.hid hfd
              have MD := Lib.hid (fun (X : World) (hX : Below wd.heap.size wd X) => blk_kept hfd (Only.of_below (S := fun _ => False) hX) (fun h => h))
              clear hbd hfd
              obtain ⟨d0, d1, d2⟩ := cells3 SD.out.ref.block
              clear d0
              go_wp2_with fail
              refine (rreserve_no SD.out.ref (by omega) (by omega) (by omega) (by omega)).mono ?_
              rintro e we ⟨rfl, hbe⟩
              have SE := Lib.hid (SD.out.q (Only.of_below hbe))
              have FE := Lib.hid (blk_kept FD.out (Only.of_below (S := fun _ => False) hbe) (fun h => h))
              clear hbe d1 d2
              have mE := methodErrorF
              have nE := nilAheadErrorF
              have eS := eqlString
              have tE := HT.out.kept (SE.out.only.below (Nat.le_refl _) (fun _ h => h))
              have hi2 : I64 2 := ⟨by decide, by decide⟩
              have hiL : I64 (L.length : Int) := ⟨by omega, by omega⟩
              have hiR : I64 (r : Int) := ⟨by omega, by omega⟩
              have fE := faultT tE FE.out hi2 hiL hiR
              clear tE
              go_wp2_with fail
              refine fE.mono ?_
              rintro e wf ⟨rfl, hbf⟩
              have SF := Lib.hid (SE.out.q (Only.of_below hbf))
              clear hbf fE
              go_wp2_with fail
              refine (wrap_any 2 L.length r _ (by decide)).mono ?_
              rintro e wg ⟨rfl, hwg⟩
              have hfg : wg.heap[wf.heap.size]? = some (.cells #[.int .i64 2, .int .i64 L.length, .int .i64 r] 58 (0, 0)) := by rw [← hwg]; exact heapNew _ _
              have SG : Hid (PlMid w wg b m g N F L r L r A c) := Lib.hid (by rw [← hwg]; exact SF.out.q ((Only.refl _ _).alloc _))
              clear hwg
              have tG := HT.out.kept (SG.out.only.below (Nat.le_refl _) (fun _ h => h))
              have fG := faultT tG hfg hi2 hiL hiR
              clear tG hfg hi2 hiL hiR
              go_wp2_with fail
              refine fG.mono ?_
              rintro e wh ⟨rfl, hbh⟩
              have SH := Lib.hid (SG.out.q (Only.of_below hbh))
              clear hbh fG
              try go_wp2
              go_meet
              case rel => exact ⟨r, F, L, A, c, rfl, by omega, by omega, by omega, SH.out⟩
            · go_wp2_with fail
              refine (reserveB_ok SC.out.buf ⟨by omega, by omega, by omega, by omega⟩ hfull).mono ?_
              rintro e wd ⟨rfl, hBd, hOd⟩
              have SD := Lib.hid (SC.out.x hBd hOd)
              clear hBd hOd
              obtain ⟨d0, d1, d2⟩ := cells3 SD.out.ref.block
              clear d0
              go_wp2_with fail
              refine (rreserve_ok SD.out.ref (by omega) (by omega) (by omega) (by omega)).mono ?_
              rintro e we ⟨rfl, hRe, hOe⟩
              have SE := Lib.hid (SD.out.y hRe hOe)
              clear hRe hOe d1 d2
              try go_wp2
              go_meet
              case rel => exact ⟨r + 1, F, L, A, c, rfl, by omega, by omega, by omega, SE.out⟩
          by_cases e1 : Go.bits .and .i64 (G k) 3 = 1
          · by_cases hr0 : r = 0
            · subst hr0
              obtain ⟨y0, y1, y2, y3⟩ := cells4 BX.out
              have KY : Hid (∀ X : World, Only (fun k => k ≠ wb.heap.size) wc X → X.cell? ⟨wb.heap.size, 0, none⟩ = some (.int .i64 Ek.deed) ∧ X.cell? ⟨wb.heap.size, 1, none⟩ = some (.int .i64 Ek.node) ∧ X.cell? ⟨wb.heap.size, 2, none⟩ = some (.int .i64 Ek.key) ∧ X.cell? ⟨wb.heap.size, 3, none⟩ = some (.int .i64 Ek.weight)) := Lib.hid fun X hX => ⟨cell_kept y0 hX (fun h => h rfl), cell_kept y1 hX (fun h => h rfl), cell_kept y2 hX (fun h => h rfl), cell_kept y3 hX (fun h => h rfl)⟩
              have NB : Hid (∀ k, BM b m k → k ≠ wb.heap.size) := Lib.hid fun k hk e => by
                have := HBL.out k hk
                omega
              have SCd := Lib.hid (SC.out.q (Only.refl (fun _ => False) wc).drew)
              have DRW : Hid (Only (fun k => k ≠ wb.heap.size) wc wc.drew) := Lib.hid (Only.refl _ _).drew
              go_wp2
              go_region_with (first | (go_at_call 10; refine (commitB_none SCd.out.buf Ek).mono ?_; rintro e wd ⟨rfl, hbd⟩; have SD := Lib.hid (SCd.out.q (Only.of_below hbd)); obtain ⟨u0, u1, u2, u3⟩ := KY.out _ (DRW.out.trans (Only.of_below hbd)); clear hbd) | (go_at_call 22; refine (rcommit_none SD.out.ref Ek).mono ?_; rintro e we ⟨rfl, hbe⟩; have SE := Lib.hid (SD.out.q (Only.of_below hbe)); clear hbe))
              all_goals
                try go_wp2
                go_meet
                case rel => exact ⟨0, F, L, A, c, rfl, by omega, by omega, by omega, SE.out⟩
            · obtain ⟨y0, y1, y2, y3⟩ := cells4 BX.out
              have KY : Hid (∀ X : World, Only (fun k => k ≠ wb.heap.size) wc X → X.cell? ⟨wb.heap.size, 0, none⟩ = some (.int .i64 Ek.deed) ∧ X.cell? ⟨wb.heap.size, 1, none⟩ = some (.int .i64 Ek.node) ∧ X.cell? ⟨wb.heap.size, 2, none⟩ = some (.int .i64 Ek.key) ∧ X.cell? ⟨wb.heap.size, 3, none⟩ = some (.int .i64 Ek.weight)) := Lib.hid fun X hX => ⟨cell_kept y0 hX (fun h => h rfl), cell_kept y1 hX (fun h => h rfl), cell_kept y2 hX (fun h => h rfl), cell_kept y3 hX (fun h => h rfl)⟩
              have NB : Hid (∀ k, BM b m k → k ≠ wb.heap.size) := Lib.hid fun k hk e => by
                have := HBL.out k hk
                omega
              have SCd := Lib.hid (SC.out.q (Only.refl (fun _ => False) wc).drew)
              have DRW : Hid (Only (fun k => k ≠ wb.heap.size) wc wc.drew) := Lib.hid (Only.refl _ _).drew
              go_wp2
              go_region_with (first | (go_at_call 10; refine (commitB_ok SCd.out.buf ⟨by omega, by omega, by omega, by omega⟩ (by omega) Ek).mono ?_; rintro e wd ⟨rfl, hBd, hOd⟩; have SD := Lib.hid (SCd.out.x hBd hOd); obtain ⟨u0, u1, u2, u3⟩ := KY.out _ (DRW.out.trans (hOd.mono NB.out)); clear hBd hOd) | (go_at_call 22; refine (rcommit_ok SD.out.ref SD.out.only.size (by omega) (by omega) (by omega) Ek).mono ?_; rintro e we ⟨rfl, A1, c1, hRe, hOe⟩; have SE := Lib.hid (SD.out.y hRe hOe); clear hRe hOe))
              all_goals
                have hr1 : (r : Int) - 1 = ((r - 1 : Nat) : Int) := by omega
                rw [hr1] at SE
                obtain ⟨L1, hL1⟩ : ∃ L1, L ++ [Ek] = L1 := ⟨_, rfl⟩
                have hln1 : (L1.length : Int) = L.length + 1 := by rw [← hL1, List.length_append]; simp
                rw [hL1] at SE
                clear hL1
                try go_wp2
                go_meet
                case rel => exact ⟨r - 1, F, L1, A1, c1, rfl, by omega, by omega, by omega, SE.out⟩
          by_cases e2 : Go.bits .and .i64 (G k) 3 = 2
          · by_cases hr0 : r = 0
            · subst hr0
              go_wp2_with fail
              refine (cancelB_none SC.out.buf).mono ?_
              rintro e w' ⟨rfl, rfl⟩
              go_wp2_with fail
              refine (rcancel_none SC.out.ref).mono ?_
              rintro e w' ⟨rfl, rfl⟩
              try go_wp2
              go_meet
              case rel => exact ⟨0, F, L, A, c, rfl, by omega, by omega, by omega, SC.out⟩
            · go_wp2_with fail
              refine (cancelB_ok SC.out.buf ⟨by omega, by omega, by omega, by omega⟩ (by omega)).mono ?_
              rintro e wd ⟨rfl, hBd, hOd⟩
              have SD := Lib.hid (SC.out.x hBd hOd)
              clear hBd hOd
              go_wp2_with fail
              refine (rcancel_ok SD.out.ref (by omega) (by omega)).mono ?_
              rintro e we ⟨rfl, hRe, hOe⟩
              have SE := Lib.hid (SD.out.y hRe hOe)
              clear hRe hOe
              have hr1 : (r : Int) - 1 = ((r - 1 : Nat) : Int) := by omega
              rw [hr1] at SE
              try go_wp2
              go_meet
              case rel => exact ⟨r - 1, F, L, A, c, rfl, by omega, by omega, by omega, SE.out⟩
          by_cases e3 : Go.bits .and .i64 (G k) 3 = 3
          · cases L with
            | nil =>
              have eE := eqlEvG
              go_wp2_with fail
              refine (takeB_none SC.out.buf ⟨by omega, by omega, by simp at hsum ⊢; omega, by omega⟩).mono ?_
              rintro e wd ⟨rfl, hbd⟩
              have SD := Lib.hid (SC.out.q (Only.of_below hbd))
              clear hbd
              dsimp only [evV, evZero]
              have SD1 := Lib.hid (SD.out.q ((Only.refl (fun _ => False) wd).alloc (.cells #[.int .i64 0, .int .i64 0, .int .i64 0, .int .i64 0] 32)))
              have y0 : (wd.alloc (.cells #[.int .i64 0, .int .i64 0, .int .i64 0, .int .i64 0] 32)).heap[wd.heap.size]? = _ := heapNew _ _
              have Y0 := Lib.hid y0
              clear y0
              go_wp2_with fail
              refine (rtake_none SD1.out.ref).mono ?_
              rintro e we ⟨rfl, hbe⟩
              have SE := Lib.hid (SD1.out.q (Only.of_below hbe))
              obtain ⟨u0, u1, u2, u3⟩ := cells4 (blk_kept Y0.out (Only.of_below (S := fun _ => False) hbe) (fun h => h))
              clear hbe
              dsimp only [evV, evZero]
              have SF := Lib.hid (SE.out.q ((Only.refl (fun _ => False) we).alloc (.cells #[.int .i64 0, .int .i64 0, .int .i64 0, .int .i64 0] 32)))
              have hsz := World.block_lt_of_cell? we _ u0
              go_wp2
              try go_wp2
              go_meet
              case rel => exact ⟨r, F, [], A, c, rfl, by omega, by omega, by simp; omega, SF.out⟩
            | cons E0 L =>
              have hlc : (((E0 :: L).length : Nat) : Int) = L.length + 1 := by simp
              have eE := eqlEvG
              go_wp2_with fail
              refine (takeB_some SC.out.buf ⟨by omega, by omega, by simp at hsum ⊢; omega, by omega⟩).mono ?_
              rintro e wd ⟨rfl, hBd, hOd⟩
              have SD := Lib.hid (SC.out.x hBd hOd)
              clear hBd hOd
              dsimp only [evV]
              have SD1 := Lib.hid (SD.out.q ((Only.refl (fun _ => False) wd).alloc (.cells #[.int .i64 E0.deed, .int .i64 E0.node, .int .i64 E0.key, .int .i64 E0.weight] 32)))
              have y0 : (wd.alloc (.cells #[.int .i64 E0.deed, .int .i64 E0.node, .int .i64 E0.key, .int .i64 E0.weight] 32)).heap[wd.heap.size]? = _ := heapNew _ _
              have nR : ∀ k, RB g A k → k < wd.heap.size := fun k hk => SD.out.ref.lt' k hk
              have Y0 := Lib.hid y0
              have NR := Lib.hid nR
              clear y0 nR
              go_wp2_with fail
              refine (rtake_some SD1.out.ref SD1.out.only.size (by omega)).mono ?_
              rintro e we ⟨rfl, A1, c1, hRe, hOe⟩
              have SE := Lib.hid (SD1.out.y hRe hOe)
              obtain ⟨u0, u1, u2, u3⟩ := cells4 (blk_kept Y0.out hOe (fun h => Nat.lt_irrefl _ (NR.out _ h)))
              clear hRe hOe
              dsimp only [evV]
              have SF := Lib.hid (SE.out.q ((Only.refl (fun _ => False) we).alloc (.cells #[.int .i64 E0.deed, .int .i64 E0.node, .int .i64 E0.key, .int .i64 E0.weight] 32)))
              have hsz := World.block_lt_of_cell? we _ u0
              go_wp2
              try go_wp2
              go_meet
              case rel => exact ⟨r, F + 1, L, A1, c1, rfl, by omega, by omega, by omega, SF.out⟩
          try go_wp2
          go_meet
          case rel => exact ⟨r, F, L, A, c, rfl, by omega, by omega, by omega, SC.out⟩
        case rest =>
          obtain ⟨r1, F1, L1, A1, c1, rfl, hF10, hF11, hsum1, hS⟩ := hcut
          have SZ := Lib.hid hS
          clear hS hsum hF0 hF1
          obtain ⟨k0, k1, k2⟩ := cells3 SZ.out.ref.block
          have hLq : L1.length ≤ 100000 := by omega
          go_wp2
          go_quiet ((first | (go_at_call 13; exact Calls.quiet_of_same (lenQ SZ.out.buf _)) | (go_at_call 17; exact Calls.quiet_of_same (reservedQ SZ.out.buf _)) | (go_at_call 14; exact Calls.quiet_of_same (sizeQ SZ.out.buf _)) | (go_at_call 12; exact Calls.quiet_of_same (weightQ SZ.out.buf _)) | (go_at_call 25; exact Calls.quiet_of_same (rweightQ SZ.out.ref hLq _))))
          clear k0 k1 k2
          go_wp2
          go_roundw
          case rel => exact ⟨k + 1, r1, F1, L1, A1, c1, by go_num, by omega, by omega, by omega, by omega, SZ.out.q (only_drawn _)⟩
          case measure => simp [intOf]; omega
    · go_wp2_with fail
      go_ret
      exact ⟨rfl, SA.out.only.below (Nat.le_refl _) (fun _ h => h)⟩
end Go.Proofs.YtlnekfodkeifkaaDoor.W

/- WritesRoom, walked. Condition: errors.errorType holds the type error. -/
import Derived.Test.YtlnekfodkeifkaaDoorSmall
import Derived.LoopTactic
namespace Go.Proofs.YtlnekfodkeifkaaDoor.W
open Go.RowKit Go.Maps Go.Proofs.YtlnekfodkeifkaaDoorW.PrintLast Go.Proofs.YtlnekfodkeifkaaDoorW.PrintWords Go.Proofs.YtlnekfodkeifkaaDoor.OC
attribute [local go_sem] World.setCell_drew
set_option linter.unusedSimpArgs false
set_option linter.unusedVariables false

set_option maxHeartbeats 4000000 in
set_option maxRecDepth 100000 in
theorem room_any (size held : Int) (w : World) (het : Err.ErrType w) : Calls Tryd.prog 5 #[.int .i64 size, .int .i64 held] w fun e w' => e = .returned (.bool true) ∧ Below w.heap.size w w' := by
  have HET := Lib.hid het
  clear het
  go_enter Tryd.func5, Tryd.ntmps5
  go_wp2_with fail
  refine (small_any _ HET.out).mono ?_
  rintro e w1 ⟨rfl, hbel1⟩
  have E1 := Lib.hid hbel1
  clear hbel1
  go_wp2_with fail
  refine (new_any size _).mono ?_
  rintro e w2 ⟨b, m, rfl, hB2, hb, hm, hbel2⟩
  have hN := ceilV_is size
  generalize ceilV size = N at hB2 hN
  have B2 := Lib.hid hB2
  have E2 := Lib.hid hbel2
  clear hB2 hbel2
  have r2 : Only (fun k => w.heap.size ≤ k) w w2 := ((Only.of_below (S := fun _ => False) E1.out).mono (fun _ h => h.elim)).trans ((Only.of_below (S := fun _ => False) E2.out).mono (fun _ h => h.elim))
  have R2 := Lib.hid r2
  clear r2
  have s1 := E1.out.size
  have HBM : Hid (∀ k, BM b m k → w.heap.size ≤ k) := Lib.hid (fun k h => by rcases h with h | h <;> omega)
  by_cases h1 : 300 < N
  · go_wp2_with (go_at_call 14; refine (sizeB B2.out).mono ?_; rintro e w' ⟨rfl, rfl⟩)
    go_ret
    exact ⟨rfl, R2.out.below (Nat.le_refl _) (fun _ h => h)⟩
  by_cases h2 : held < 0
  · go_wp2_with (go_at_call 14; refine (sizeB B2.out).mono ?_; rintro e w' ⟨rfl, rfl⟩)
    go_ret
    exact ⟨rfl, R2.out.below (Nat.le_refl _) (fun _ h => h)⟩
  by_cases h3 : N < held
  · go_wp2_with (go_at_call 14; refine (sizeB B2.out).mono ?_; rintro e w' ⟨rfl, rfl⟩)
    go_ret
    exact ⟨rfl, R2.out.below (Nat.le_refl _) (fun _ h => h)⟩
  go_wp2_with (go_at_call 14; refine (sizeB B2.out).mono ?_; rintro e w' ⟨rfl, rfl⟩)
  obtain ⟨hd, rfl⟩ : ∃ hd : Nat, held = hd := ⟨held.toNat, by omega⟩
  -- what is held
  go_loopw [7] (fun v wr => ∃ (k : Nat) (L : List Ev), v = .int .i64 k ∧ k ≤ hd ∧ L.length = k ∧ Buf wr b m N L 0 0 ∧ Only (fun k => w.heap.size ≤ k) w wr) (fun v _ => hd - (intOf v).toNat)
  case atStart => exact ⟨0, [], rfl, by omega, rfl, B2.out, R2.out⟩
  case round =>
    obtain ⟨k, L, rfl, hk, hL, hB, hO⟩ := hrel
    rename World => wa
    have BA := Lib.hid hB
    have OA := Lib.hid hO
    clear hB hO
    by_cases hlt : k < hd
    · go_wp2_with fail
      refine (reserveB_ok BA.out ⟨by omega, by omega, by omega, by omega⟩ (by omega)).mono ?_
      rintro e wb ⟨rfl, hBb, hOb⟩
      have BB := Lib.hid hBb
      have OB := Lib.hid hOb
      clear hBb hOb
      go_wp2_with fail
      refine (event_any _ _).mono ?_
      rintro e wc ⟨rfl, hbc⟩
      have BC := Lib.hid (BB.out.kept (Only.of_below (S := fun _ => False) hbc) (fun h => h) (fun h => h))
      have OC := Lib.hid ((OA.out.trans (OB.out.mono HBM.out)).trans ((Only.of_below (S := fun _ => False) hbc).mono (fun _ h => h.elim)))
      clear hbc
      go_wp2_with fail
      refine (commitB_ok BC.out ⟨by omega, by omega, by omega, by omega⟩ (by omega) _).mono ?_
      rintro e wd ⟨rfl, hBd, hOd⟩
      have BD := Lib.hid hBd
      have OD := Lib.hid (OC.out.trans (hOd.mono HBM.out))
      clear hBd hOd
      go_wp2_with fail
      go_roundw
      case rel => exact ⟨k + 1, _, by go_num, by omega, by simp [hL], BD.out, OD.out⟩
      case measure => simp [intOf]; omega
    · go_wp2_with fail
      have hkd : k = hd := by omega
      subst hkd
      clear hlt hk
      -- the two rounds
      go_loopw [8] (fun v wr => ∃ (r : Nat), v = .int .i64 r ∧ r ≤ 2 ∧ Buf wr b m N L 0 0 ∧ Only (fun k => w.heap.size ≤ k) w wr) (fun v _ => 2 - (intOf v).toNat)
      case atStart => exact ⟨0, rfl, by omega, BA.out, OA.out⟩
      case round =>
        obtain ⟨r, rfl, hr, hB, hO⟩ := hrel
        rename World => wa
        clear BA OA
        have BA := Lib.hid hB
        have OA := Lib.hid hO
        clear hB hO
        by_cases hr2 : r < 2
        · go_wp2_with fail
          rw [decide_eq_true (show ((r : Nat) : Int) < 2 by omega)]
          go_loopw [9] (fun v wr => ∃ (n : Nat), v = .int .i64 n ∧ (n : Int) ≤ N - k ∧ Buf wr b m N L 0 n ∧ Only (fun k => w.heap.size ≤ k) w wr) (fun v _ => N.toNat + 1 - (intOf v).toNat)
          case atStart => exact ⟨0, rfl, by omega, BA.out, OA.out⟩
          case round =>
            obtain ⟨n, rfl, hn, hB, hO⟩ := hrel
            rename World => wa
            clear BA OA
            have BA := Lib.hid hB
            have OA := Lib.hid hO
            clear hB hO
            have hnN : (n : Int) ≤ N := by omega
            by_cases hful : (n : Int) = N - k
            · -- full: out
              have hful2 : N - (k : Int) = n := by omega
              clear hful
              go_wp2_with fail
              refine (sizeB BA.out).mono ?_
              rintro e w' ⟨rfl, rfl⟩
              go_wp2_with fail
              refine (reserveB_full BA.out ⟨by omega, by omega, by omega, by omega⟩ (by omega)).mono ?_
              rintro e wb ⟨rfl, -, hbb⟩
              have BB := Lib.hid (BA.out.kept (Only.of_below (S := fun _ => False) hbb) (fun h => h) (fun h => h))
              have OB := Lib.hid (OA.out.trans ((Only.of_below (S := fun _ => False) hbb).mono (fun _ h => h.elim)))
              clear hbb
              go_wp2_with (first | (go_at_call 14; refine (sizeB BB.out).mono ?_; rintro e w' ⟨rfl, rfl⟩) | (go_at_call 17; refine (reservedB BB.out).mono ?_; rintro e w' ⟨rfl, rfl⟩))
              have hn' : (n : Int) ≤ N - k := hn
              clear hful2 hn
              go_loopw [10] (fun v wr => ∃ (j : Nat), v = .int .i64 j ∧ j ≤ n ∧ Buf wr b m N L 0 ((n : Int) - j) ∧ Only (fun k => w.heap.size ≤ k) w wr) (fun v _ => n - (intOf v).toNat)
              case atStart => exact ⟨0, rfl, by omega, by simpa using BB.out, OB.out⟩
              case round =>
                obtain ⟨j, rfl, hj, hB, hO⟩ := hrel
                rename World => wa
                clear BB OB
                have BB := Lib.hid hB
                have OB := Lib.hid hO
                clear hB hO
                by_cases hjn : j < n
                · go_wp2_with fail
                  refine (cancelB_ok BB.out ⟨by omega, by omega, by omega, by omega⟩ (by omega)).mono ?_
                  rintro e wc ⟨rfl, hBc, hOc⟩
                  have BC := Lib.hid (show Buf wc b m N L 0 ((n : Int) - (j + 1 : Nat)) from by rw [show ((n : Int) - (j + 1 : Nat)) = (n : Int) - j - 1 by omega]; exact hBc)
                  have OC := Lib.hid (OB.out.trans (hOc.mono HBM.out))
                  clear hBc hOc
                  go_wp2_with fail
                  go_roundw
                  case rel => exact ⟨j + 1, by go_num, by omega, BC.out, OC.out⟩
                  case measure => simp [intOf]; omega
                · have hj2 : j = n := by omega
                  subst hj2
                  go_wp2_with fail
                  exact ⟨⟨r + 1, by go_num, by omega, by simpa using BB.out, OB.out⟩, by simp [intOf]; omega⟩
            · go_wp2_with fail
              refine (sizeB BA.out).mono ?_
              rintro e w' ⟨rfl, rfl⟩
              go_wp2_with fail
              refine (reserveB_ok BA.out ⟨by omega, by omega, by omega, by omega⟩ (by omega)).mono ?_
              rintro e wb ⟨rfl, hBb, hOb⟩
              have BB := Lib.hid hBb
              have OB := Lib.hid (OA.out.trans (hOb.mono HBM.out))
              clear hBb hOb
              go_wp2_with fail
              go_roundw
              case rel => exact ⟨n + 1, by go_num, by omega, BB.out, OB.out⟩
              case measure => simp [intOf]; omega
        · go_wp2_with (first | (go_at_call 13; refine (lenB BA.out).mono ?_; rintro e w' ⟨rfl, rfl⟩) | (go_at_call 17; refine (reservedB BA.out).mono ?_; rintro e w' ⟨rfl, rfl⟩))
          go_ret
          refine ⟨?_, OA.out.below (Nat.le_refl _) (fun _ h => h)⟩
          simp [hL]
end Go.Proofs.YtlnekfodkeifkaaDoor.W

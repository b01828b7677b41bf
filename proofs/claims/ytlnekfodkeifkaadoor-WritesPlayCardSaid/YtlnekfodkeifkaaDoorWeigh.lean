/- WritesWeigh, walked. Condition: errors.errorType holds the type error; the slice reads as the list L. -/
import Derived.Test.YtlnekfodkeifkaaDoorSmall
import Derived.LoopTactic
import Derived.Deep.QuietTactic
import Derived.BigQuiet
namespace Go.Proofs.YtlnekfodkeifkaaDoor.W
open Go.RowKit Go.Maps Go.Proofs.YtlnekfodkeifkaaDoorW.PrintLast Go.Proofs.YtlnekfodkeifkaaDoorW.PrintWords Go.Proofs.YtlnekfodkeifkaaDoor.OC
attribute [local go_sem] World.setCell_drew
set_option linter.unusedSimpArgs false
set_option linter.unusedVariables false

/-- A slice of ints reads as a function. -/
def Row (w : World) (a : Option Addr) (n : Nat) (G : Nat → Int) : Prop := ∀ i, i < n → ∃ ad, a = some ad ∧ w.cell? (ad.add i) = some (.int .i64 (G i))
theorem Row.kept {w w' : World} {a : Option Addr} {n : Nat} {G : Nat → Int} {S : Nat → Prop} (h : Row w a n G) (ho : Only S w w') (hS : ∀ k, S k → w.heap.size ≤ k) : Row w' a n G := fun i hi => by
  obtain ⟨ad, e, hc⟩ := h i hi
  refine ⟨ad, e, cell_kept hc ho fun hk => ?_⟩
  have := hS _ hk
  have := World.block_lt_of_cell? w _ hc
  omega
/-- The events that are committed. -/
def wEv (G : Nat → Int) (i : Nat) : Ev := ⟨1, (i : Int) + 1, 0, G i⟩
def wEvs (G : Nat → Int) (j n : Nat) : List Ev := (List.range' j n).map (wEv G)
theorem wEvs_len (G : Nat → Int) (j n : Nat) : (wEvs G j n).length = n := by simp [wEvs]
theorem wEvs_snoc (G : Nat → Int) (j n : Nat) : wEvs G j n ++ [wEv G (j + n)] = wEvs G j (n + 1) := by
  simp [wEvs, List.range'_concat]
theorem wEvs_cons (G : Nat → Int) (j n : Nat) (h : 0 < n) : wEvs G j n = wEv G j :: wEvs G (j + 1) (n - 1) := by
  obtain ⟨n, rfl⟩ : ∃ k, n = k + 1 := ⟨n - 1, by omega⟩
  simp [wEvs, List.range'_succ]
theorem cell_new {w : World} {cs : Array Value} {t : TypeId} {j : Nat} {v : Value} (h : cs[j]? = some v) : (w.alloc (.cells cs t)).cell? ⟨w.heap.size, j, none⟩ = some v := by
  unfold World.cell?
  rw [heapNew]
  exact h
theorem ceil256 : ceilV 256 = 256 := by decide

theorem wEvs_wt (G : Nat → Int) (j n : Nat) : wt (wEvs G j (n + 1)) = wt (wEvs G j n) + hv (G (j + n)) := by
  rw [← wEvs_snoc, wt_snoc]; rfl
set_option maxHeartbeats 4000000 in
set_option maxRecDepth 100000 in
theorem weigh_any (a : Option Addr) (len cap : Nat) (G : Nat → Int) (takes : Int) (w : World) (het : Err.ErrType w) (hrow : Row w a len G) : Calls Tryd.prog 3 #[.slice a len cap, .int .i64 takes] w fun e w' => e = .returned (.bool true) ∧ Below w.heap.size w w' := by
  have HET := Lib.hid het
  have HR := Lib.hid hrow
  clear het hrow
  go_enter Tryd.func3, Tryd.ntmps3
  go_wp2_with fail
  refine (small_any _ HET.out).mono ?_
  rintro e w1 ⟨rfl, hbel1⟩
  have E1 := Lib.hid hbel1
  clear hbel1
  go_wp2_with fail
  refine (new_any 256 _).mono ?_
  rintro e w2 ⟨b, m, rfl, hB2, hb, hm, hbel2⟩
  rw [ceil256] at hB2
  have B2 := Lib.hid hB2
  have E2 := Lib.hid hbel2
  clear hB2 hbel2
  have r2 : Only (fun k => w.heap.size ≤ k) w w2 := ((Only.of_below (S := fun _ => False) E1.out).mono (fun _ h => h.elim)).trans ((Only.of_below (S := fun _ => False) E2.out).mono (fun _ h => h.elim))
  have R2 := Lib.hid r2
  clear r2
  have s1 := E1.out.size
  have HBM : Hid (∀ k, BM b m k → w.heap.size ≤ k) := Lib.hid (fun k h => by rcases h with h | h <;> omega)
  by_cases h1 : (200 : Int) < len
  · go_wp2_with fail
    go_ret
    exact ⟨rfl, R2.out.below (Nat.le_refl _) (fun _ h => h)⟩
  by_cases h2 : takes < 0
  · go_wp2_with fail
    go_ret
    exact ⟨rfl, R2.out.below (Nat.le_refl _) (fun _ h => h)⟩
  go_wp2_with fail
  obtain ⟨tk, rfl⟩ : ∃ tk : Nat, takes = tk := ⟨takes.toNat, by omega⟩
  -- what is committed
  go_loopw [7] (fun v wr => ∃ (k : Nat), v = .int .i64 k ∧ k ≤ len ∧ Buf wr b m 256 (wEvs G 0 k) 0 0 ∧ Only (fun k => w.heap.size ≤ k) w wr) (fun v _ => len - (intOf v).toNat)
  case atStart => exact ⟨0, rfl, by omega, B2.out, R2.out⟩
  case round =>
    obtain ⟨k, rfl, hk, hB, hO⟩ := hrel
    rename World => wa
    have BA := Lib.hid hB
    have OA := Lib.hid hO
    clear hB hO
    have hl := wEvs_len G 0 k
    by_cases hlt : k < len
    · go_wp2_with fail
      refine (reserveB_ok BA.out ⟨by omega, by omega, by omega, by omega⟩ (by omega)).mono ?_
      rintro e wb ⟨rfl, hBb, hOb⟩
      have BB := Lib.hid hBb
      have OB := Lib.hid (OA.out.trans (hOb.mono HBM.out))
      clear hBb hOb
      obtain ⟨ad, rfl, hx⟩ := HR.out.kept OB.out (fun _ h => h) k (by omega)
      go_wp2_with fail
      refine (commitB_ok BB.out ⟨by omega, by omega, by omega, by omega⟩ (by omega) (wEv G k)).mono ?_
      rintro e wd ⟨rfl, hBd, hOd⟩
      have BD := Lib.hid (show Buf wd b m 256 (wEvs G 0 (k + 1)) 0 0 from by have := hBd; rw [show wEvs G 0 (k + 1) = wEvs G 0 k ++ [wEv G k] from by rw [← wEvs_snoc, Nat.zero_add]]; exact this)
      have OD := Lib.hid (OB.out.trans (hOd.mono HBM.out))
      clear hBd hOd
      go_wp2_with fail
      go_roundw
      case rel => exact ⟨k + 1, by go_num, by omega, BD.out, OD.out⟩
      case measure => simp [intOf]; omega
    · have hkd : k = len := by omega
      subst hkd
      clear hlt hk hl
      go_wp2_with fail
      go_loopw [8] (fun v wr => ∃ (j : Nat), v = .int .i64 j ∧ j ≤ k ∧ j ≤ tk ∧ Buf wr b m 256 (wEvs G j (k - j)) j 0 ∧ Only (fun k => w.heap.size ≤ k) w wr) (fun v _ => k - (intOf v).toNat)
      case atStart => exact ⟨0, rfl, by omega, by omega, BA.out, OA.out⟩
      case round =>
        obtain ⟨j, rfl, hj, hjt, hB, hO⟩ := hrel
        rename World => wa
        clear BA OA
        have BA := Lib.hid hB
        have OA := Lib.hid hO
        clear hB hO
        have hl := wEvs_len G j (k - j)
        by_cases hgo : j < tk ∧ j < k
        · obtain ⟨g1, g2⟩ := hgo
          have BA' := Lib.hid (show Buf wa b m 256 (wEv G j :: wEvs G (j + 1) (k - (j + 1))) j 0 from by have := BA.out; rw [wEvs_cons G j (k - j) (by omega)] at this; rw [show k - (j + 1) = k - j - 1 by omega]; exact this)
          have hl' := wEvs_len G (j + 1) (k - (j + 1))
          go_wp2_with fail
          refine (takeB_some BA'.out ⟨by omega, by omega, by simp [hl']; omega, by omega⟩).mono ?_
          rintro e wb ⟨rfl, hBb, hOb⟩
          have BB := Lib.hid hBb
          have OB := Lib.hid (OA.out.trans (hOb.mono HBM.out))
          clear hBb hOb
          dsimp only [evV, wEv]
          obtain ⟨ad, rfl, hx⟩ := HR.out.kept OB.out (fun _ h => h) j (by omega)
          go_wp2_with fail
          obtain ⟨W, hW⟩ : ∃ W, W = wb.alloc (.cells #[.int .i64 1, .int .i64 ((j : Int) + 1), .int .i64 0, .int .i64 (G j)] 32) := ⟨_, rfl⟩
          rw [← hW]
          have OA1 : Only (fun _ => False) wb W := by rw [hW]; exact (Only.refl _ _).alloc _
          have hx' : W.cell? (ad.add j) = some (.int .i64 (G j)) := cell_kept hx OA1 (fun h => h)
          have c1 : W.cell? ⟨wb.heap.size, 1, none⟩ = some (.int .i64 ((j : Int) + 1)) := by rw [hW]; exact cell_new rfl
          have c3 : W.cell? ⟨wb.heap.size, 3, none⟩ = some (.int .i64 (G j)) := by rw [hW]; exact cell_new rfl
          have BW := Lib.hid (BB.out.kept OA1 (fun h => h) (fun h => h))
          have OW := Lib.hid (OB.out.trans (OA1.mono (fun _ h => h.elim)))
          clear OA1 hx hW
          repeat (go_quiet (fail); try go_wp2)
          exact ⟨⟨j + 1, by go_num, by omega, by omega, BW.out.kept (only_drawn (S := fun _ => False) nq) (fun h => h) (fun h => h), OW.out.drewN nq⟩, by simp [intOf]; omega⟩
        · -- behind the takes
          rcases Nat.lt_or_ge j tk with g | g
          · obtain rfl : j = k := by omega
            have g' : (j : Int) < tk := by omega
            go_wp2_with fail
            clear hl hj hjt
            go_loop [11, 12] (fun s v => ∃ (i : Nat), v = .int .i64 i ∧ j ≤ i ∧ i ≤ j ∧ s = .int .i64 (wt (wEvs G j (i - j)))) (fun _ v => j - (intOf v).toNat)
            case atStart => exact ⟨j, rfl, by omega, by omega, by simp [wEvs]; rfl⟩
            case round =>
              obtain ⟨i, rfl, hij, hik, rfl⟩ := hrel
              have hq := wt_is (wEvs G j (i - j))
              have hl := wEvs_len G j (i - j)
              rw [hl] at hq
              generalize hT : wt (wEvs G j (i - j)) = T at hq ⊢
              by_cases hlt : i < j
              · obtain ⟨ad, rfl, hx⟩ := HR.out.kept OA.out (fun _ h => h) i (by omega)
                have hE : wt (wEvs G j (i + 1 - j)) = T + hv (G i) := by rw [show i + 1 - j = (i - j) + 1 by omega, wEvs_wt, hT, show j + (i - j) = i by omega]
                clear hT
                go_wp2_with fail
                all_goals exact ⟨⟨i + 1, by go_num, by omega, by omega, congrArg (Value.int .i64) (by rw [hE]; unfold hv; (repeat' split) <;> omega)⟩, by simp [intOf]; omega⟩
              · obtain rfl : i = j := by omega
                go_wp2_with fail
                refine (weightB BA.out).mono ?_
                rintro e w' ⟨he, rfl⟩
                rw [hT] at he
                subst he
                go_wp2_with fail
                refine (lenB BA.out).mono ?_
                rintro e w' ⟨he, rfl⟩
                rw [hl] at he
                subst he
                clear hT
                go_wp2_with fail
                all_goals go_ret
                all_goals refine ⟨?_, OA.out.below (Nat.le_refl _) (fun _ h => h)⟩
                all_goals simp
                all_goals omega
          · obtain rfl : j = tk := by omega
            have g' : (j : Int) ≤ k := by omega
            go_wp2_with fail
            clear hl hj hjt
            go_loop [11, 12] (fun s v => ∃ (i : Nat), v = .int .i64 i ∧ j ≤ i ∧ i ≤ k ∧ s = .int .i64 (wt (wEvs G j (i - j)))) (fun _ v => k - (intOf v).toNat)
            case atStart => exact ⟨j, rfl, by omega, by omega, by simp [wEvs]; rfl⟩
            case round =>
              obtain ⟨i, rfl, hij, hik, rfl⟩ := hrel
              have hq := wt_is (wEvs G j (i - j))
              have hl := wEvs_len G j (i - j)
              rw [hl] at hq
              generalize hT : wt (wEvs G j (i - j)) = T at hq ⊢
              by_cases hlt : i < k
              · obtain ⟨ad, rfl, hx⟩ := HR.out.kept OA.out (fun _ h => h) i (by omega)
                have hE : wt (wEvs G j (i + 1 - j)) = T + hv (G i) := by rw [show i + 1 - j = (i - j) + 1 by omega, wEvs_wt, hT, show j + (i - j) = i by omega]
                clear hT
                go_wp2_with fail
                all_goals exact ⟨⟨i + 1, by go_num, by omega, by omega, congrArg (Value.int .i64) (by rw [hE]; unfold hv; (repeat' split) <;> omega)⟩, by simp [intOf]; omega⟩
              · obtain rfl : i = k := by omega
                go_wp2_with fail
                refine (weightB BA.out).mono ?_
                rintro e w' ⟨he, rfl⟩
                rw [hT] at he
                subst he
                go_wp2_with fail
                refine (lenB BA.out).mono ?_
                rintro e w' ⟨he, rfl⟩
                rw [hl] at he
                subst he
                clear hT
                go_wp2_with fail
                all_goals go_ret
                all_goals refine ⟨?_, OA.out.below (Nat.le_refl _) (fun _ h => h)⟩
                all_goals simp
                all_goals omega
end Go.Proofs.YtlnekfodkeifkaaDoor.W

/- What each method of the program's buffer does to it, and answers. Conditions: the pointer leads to a buffer, whose numbers are of everyday size. -/
import Derived.Test.YtlnekfodkeifkaaDoorBuf
import Derived.Deep.QuietTactic
import Derived.BigQuiet
import Derived.StillTailTactics
import Derived.Deep.RegionWith
import Derived.IntWalk
import Derived.Maps.RangeWalk
import Derived.Deep.AppendLies
import Derived.Lib.Hide
import Derived.Outline
namespace Go.Proofs.YtlnekfodkeifkaaDoor.W
open Go.RowKit Go.Maps
attribute [local go_sem] World.setCell_drew

theorem mLaw : Keyed Tryd.prog 3 := int_keyed Tryd.underlying3
theorem zeroEv (w : World) : (zeroValue 32).run Tryd.prog w = .ok (.agg #[.int .i64 0, .int .i64 0, .int .i64 0, .int .i64 0]) w := by kernel_rfl

theorem retInt {k : IntKind} {a b : Int} (h : a = b) : Ending.returned (.int k a) = .returned (.int k b) := by rw [h]
theorem len_any (b m n : Nat) (D : DataW Unit) (w : World) (c1 : w.cell? ⟨b, 1, none⟩ = some (.map (some m))) (hown : w.ownsMap Tryd.prog 3 evElem m n D) :
    Calls Tryd.prog 13 #[.pointer (some ⟨b, 0, none⟩)] w fun e w' => e = .returned (.int .i64 (Maps.size D)) ∧ w = w' := by
  go_enter Tryd.func13, Tryd.ntmps13
  go_wp2_with (at_len; refine wpList_len_own _ rfl _ 52 rfl 3 32 Tryd.underlying52 _ m n D rfl hown ?_)
  go_ret
  exact ⟨rfl, rfl⟩
theorem weight_any (b : Nat) (W : Int) (w : World) (c4 : w.cell? ⟨b, 4, none⟩ = some (.int .i64 W)) :
    Calls Tryd.prog 12 #[.pointer (some ⟨b, 0, none⟩)] w fun e w' => e = .returned (.int .i64 W) ∧ w = w' := by
  go_enter Tryd.func12, Tryd.ntmps12
  go_wp2
  go_ret
  exact ⟨rfl, rfl⟩
theorem size_any (b : Nat) (N : Int) (w : World) (c0 : w.cell? ⟨b, 0, none⟩ = some (.int .i64 N)) :
    Calls Tryd.prog 14 #[.pointer (some ⟨b, 0, none⟩)] w fun e w' => e = .returned (.int .i64 N) ∧ w = w' := by
  have c0' : w.cell? (Addr.add ⟨b, 0, none⟩ 0) = some (.int .i64 N) := c0
  go_enter Tryd.func14, Tryd.ntmps14
  go_wp2
  go_ret
  exact ⟨rfl, rfl⟩
theorem reserved_any (b : Nat) (R : Int) (w : World) (c3 : w.cell? ⟨b, 3, none⟩ = some (.int .i64 R)) :
    Calls Tryd.prog 17 #[.pointer (some ⟨b, 0, none⟩)] w fun e w' => e = .returned (.int .i64 R) ∧ w = w' := by
  go_enter Tryd.func17, Tryd.ntmps17
  go_wp2
  go_ret
  exact ⟨rfl, rfl⟩
theorem heavy_any (e : Ev) (w : World) :
    Calls Tryd.prog 28 #[evV e] w fun r w' => r = .returned (.int .i64 (hv e.weight)) ∧ w.alloc (.cells #[.int .i64 e.deed, .int .i64 e.node, .int .i64 e.key, .int .i64 e.weight] 32) = w' := by
  unfold evV
  go_enter Tryd.func28, Tryd.ntmps28
  go_wp2
  all_goals
    go_ret
    refine ⟨retInt ?_, rfl⟩
    unfold hv
    repeat' split
    all_goals omega
theorem cancel_none (b : Nat) (w : World) (c3 : w.cell? ⟨b, 3, none⟩ = some (.int .i64 0)) :
    Calls Tryd.prog 16 #[.pointer (some ⟨b, 0, none⟩)] w fun e w' => e = .returned (.int .i64 3) ∧ w = w' := by
  go_enter Tryd.func16, Tryd.ntmps16
  go_wp2
  go_ret
  exact ⟨rfl, rfl⟩
theorem cancel_some (b : Nat) (R : Int) (w : World) (h0 : 0 < R) (h1 : R ≤ 100000) (c3 : w.cell? ⟨b, 3, none⟩ = some (.int .i64 R)) (f3 : w.frozen? ⟨b, 3, none⟩ = false) :
    Calls Tryd.prog 16 #[.pointer (some ⟨b, 0, none⟩)] w fun e w' => e = .returned (.int .i64 0) ∧ w.setCell ⟨b, 3, none⟩ (.int .i64 (R - 1)) = w' := by
  have hb : (R == 0) = false := beq_eq_false_iff_ne.2 (by omega)
  go_enter Tryd.func16, Tryd.ntmps16
  go_wp2
  go_ret
  exact ⟨rfl, rfl⟩
theorem wrap_any (n k m : Int) (w : World) (hn : n ≠ 0) :
    Calls Tryd.prog 21 #[.int .i64 n, .int .i64 k, .int .i64 m] w fun e w' => e = .returned (.iface 56 (.pointer (some ⟨w.heap.size, 0, none⟩))) ∧ w.alloc (.cells #[.int .i64 n, .int .i64 k, .int .i64 m] 58) = w' := by
  have hb : (n == 0) = false := beq_eq_false_iff_ne.2 hn
  go_enter Tryd.func21, Tryd.ntmps21
  go_wp2
  go_ret
  exact ⟨rfl, rfl⟩
theorem len_quiet (b m n : Nat) (D : DataW Unit) (w : World) (c1 : w.cell? ⟨b, 1, none⟩ = some (.map (some m))) (hown : w.ownsMap Tryd.prog 3 evElem m n D) :
    Calls Tryd.prog 13 #[.pointer (some ⟨b, 0, none⟩)] w fun e w' => e = .returned (.int .i64 (Maps.size D)) ∧ w' = w :=
  (len_any b m n D w c1 hown).mono fun _ _ ⟨h1, h2⟩ => ⟨h1, h2.symm⟩
theorem reserve_full (b m n : Nat) (D : DataW Unit) (N R : Int) (w : World) (c0 : w.cell? ⟨b, 0, none⟩ = some (.int .i64 N)) (c1 : w.cell? ⟨b, 1, none⟩ = some (.map (some m))) (c3 : w.cell? ⟨b, 3, none⟩ = some (.int .i64 R)) (hown : w.ownsMap Tryd.prog 3 evElem m n D)
    (h0 : 0 ≤ R) (h1 : (Maps.size D : Int) + R ≤ 100000) (hN : ((Maps.size D : Int) + R == N) = true) :
    Calls Tryd.prog 9 #[.pointer (some ⟨b, 0, none⟩)] w fun e w' => e = .returned (.iface 56 (.pointer (some ⟨w.heap.size, 0, none⟩))) ∧ ∃ nq, w' = (w.alloc (.cells #[.int .i64 2, .int .i64 (Maps.size D), .int .i64 R] 58)).drewN nq := by
  have hw : IntKind.i64.wrap ((Maps.size D : Int) + R) = (Maps.size D : Int) + R := IntWalk.i64_in _ (by omega)
  have hmO := Lib.hid hown
  clear hown
  go_enter Tryd.func9, Tryd.ntmps9
  go_wp2
  go_quiet ((go_at_call 13; exact Calls.quiet_of_same (len_quiet b m n D _ c1 hmO.out)))
  go_wp2
  go_region_with (first | (go_at_call 13; refine (len_any b m n D _ ?_ ?_).mono ?_; exact c1; exact hmO.out; rintro e w' ⟨rfl, rfl⟩) | (go_at_call 21; refine (wrap_any _ _ _ _ (by decide)).mono ?_; rintro e w' ⟨rfl, rfl⟩))
  all_goals (try go_wp2)
  all_goals
    go_ret
    exact ⟨rfl, _, rfl⟩
theorem reserve_ok (b m n : Nat) (D : DataW Unit) (N R : Int) (w : World) (c0 : w.cell? ⟨b, 0, none⟩ = some (.int .i64 N)) (c1 : w.cell? ⟨b, 1, none⟩ = some (.map (some m))) (c3 : w.cell? ⟨b, 3, none⟩ = some (.int .i64 R)) (f3 : w.frozen? ⟨b, 3, none⟩ = false) (hown : w.ownsMap Tryd.prog 3 evElem m n D)
    (h0 : 0 ≤ R) (h1 : (Maps.size D : Int) + R ≤ 100000) (hN : ((Maps.size D : Int) + R == N) = false) :
    Calls Tryd.prog 9 #[.pointer (some ⟨b, 0, none⟩)] w fun e w' => e = .returned .nilIface ∧ ∃ nq, w' = (w.setCell ⟨b, 3, none⟩ (.int .i64 (R + 1))).drewN nq := by
  have hw : IntKind.i64.wrap ((Maps.size D : Int) + R) = (Maps.size D : Int) + R := IntWalk.i64_in _ (by omega)
  have hmO := Lib.hid hown
  clear hown
  go_enter Tryd.func9, Tryd.ntmps9
  go_wp2
  go_quiet ((go_at_call 13; exact Calls.quiet_of_same (len_quiet b m n D _ c1 hmO.out)))
  go_wp2
  go_ret
  exact ⟨rfl, _, rfl⟩
theorem commit_none (b : Nat) (e : Ev) (w : World) (c3 : w.cell? ⟨b, 3, none⟩ = some (.int .i64 0)) :
    Calls Tryd.prog 10 #[.pointer (some ⟨b, 0, none⟩), evV e] w fun r w' => r = .returned (.int .i64 3) ∧ w.alloc (.cells #[.int .i64 e.deed, .int .i64 e.node, .int .i64 e.key, .int .i64 e.weight] 32) = w' := by
  have hbl : b < w.heap.size := by
    rcases Nat.lt_or_ge b w.heap.size with h | h
    · exact h
    · simp [World.cell?, Array.getElem?_eq_none h] at c3
  have c3' : ∀ o, (w.alloc o).cell? ⟨b, 3, none⟩ = some (.int .i64 0) := fun o => by rw [World.cell?_alloc_lt _ _ _ hbl]; exact c3
  unfold evV
  go_enter Tryd.func10, Tryd.ntmps10
  go_wp2_with (go_at_call 16; refine (cancel_none b _ (c3' _)).mono ?_; rintro e w' ⟨rfl, rfl⟩)
  go_ret
  exact ⟨rfl, rfl⟩
theorem cell_far {w : World} {p a : Addr} {u v : Value} (h : w.cell? a = some v) (hne : p ≠ a) : (w.setCell p u).cell? a = some v := by rw [World.cell?_setCell_other _ _ _ _ hne]; exact h
theorem adNe {b i j : Nat} (h : i ≠ j) : (⟨b, i, none⟩ : Addr) ≠ ⟨b, j, none⟩ := by intro e; cases e; exact h rfl
theorem adNeB {b c i j : Nat} (h : b ≠ c) : (⟨b, i, none⟩ : Addr) ≠ ⟨c, j, none⟩ := by intro e; cases e; exact h rfl
def EvO (e : Ev) : Obj := .cells #[.int .i64 e.deed, .int .i64 e.node, .int .i64 e.key, .int .i64 e.weight] 32
set_option maxRecDepth 100000 in
theorem commit_ok (b m n : Nat) (D : DataW Unit) (F R W : Int) (e : Ev) (w : World) (hbm : b ≠ m) (hbl : b < w.heap.size) (c1 : w.cell? ⟨b, 1, none⟩ = some (.map (some m))) (c2 : w.cell? ⟨b, 2, none⟩ = some (.int .i64 F)) (c3 : w.cell? ⟨b, 3, none⟩ = some (.int .i64 R)) (c4 : w.cell? ⟨b, 4, none⟩ = some (.int .i64 W)) (hf : ∀ j, w.frozen? ⟨b, j, none⟩ = false) (hown : w.ownsMap Tryd.prog 3 evElem m n D)
    (h0 : 0 < R) (h1 : R ≤ 100000) (hF0 : 0 ≤ F) (hF1 : F + (Maps.size D : Int) ≤ 1000000) (hn : n ≤ 100000) (hW0 : 0 ≤ W) (hW1 : W ≤ 1000000000000000) :
    Calls Tryd.prog 10 #[.pointer (some ⟨b, 0, none⟩), evV e] w fun r w' => r = .returned (.int .i64 0) ∧ ∃ w1, w1.ownsMap Tryd.prog 3 evElem m (n + 1) (D.put (.int .i64 (F + (Maps.size D : Int))) (evD e)) ∧ ((w.alloc (EvO e)).setCell ⟨b, 3, none⟩ (.int .i64 (R - 1))).grownBy w1 (some m) ∧
      ∃ nq, w' = ((w1.setCell ⟨b, 4, none⟩ (.int .i64 (W + hv e.weight))).alloc (EvO e)).drewN nq := by
  have hw : IntKind.i64.wrap (F + (Maps.size D : Int)) = F + (Maps.size D : Int) := IntWalk.i64_in _ (by omega)
  have hev := hv_is e.weight
  have hv2 : IntKind.i64.wrap (W + hv e.weight) = W + hv e.weight := IntWalk.i64_in _ (by omega)
  have c3' : (w.alloc (.cells #[.int .i64 e.deed, .int .i64 e.node, .int .i64 e.key, .int .i64 e.weight] 32)).cell? ⟨b, 3, none⟩ = some (.int .i64 R) := by rw [World.cell?_alloc_lt _ _ _ hbl]; exact c3
  have f3' : (w.alloc (.cells #[.int .i64 e.deed, .int .i64 e.node, .int .i64 e.key, .int .i64 e.weight] 32)).frozen? ⟨b, 3, none⟩ = false := by rw [World.frozen?_alloc_old _ _ _ (Nat.ne_of_lt hbl)]; exact hf 3
  have HO := Lib.hid hown
  have H1 := Lib.hid c1
  have H2 := Lib.hid c2
  have H4 := Lib.hid c4
  have HF := Lib.hid hf
  have HM := Lib.hid hbm
  clear hown c1 c2 c3 c4 hf hbm
  unfold evV
  go_enter Tryd.func10, Tryd.ntmps10
  go_wp2_with (go_at_call 16; refine (cancel_some b R _ h0 h1 c3' f3').mono ?_; rintro e w2 ⟨rfl, hw2⟩; have HW2 := Lib.hid hw2; clear hw2)
  have hne : w.heap.size ≠ b := Nat.ne_of_gt hbl
  have k1 : w2.cell? ⟨b, 1, none⟩ = some (.map (some m)) := by rw [← HW2.out]; refine cell_far ?_ (adNe (by decide)); rw [World.cell?_alloc_lt _ _ _ hbl]; exact H1.out
  have k2 : w2.cell? ⟨b, 2, none⟩ = some (.int .i64 F) := by rw [← HW2.out]; refine cell_far ?_ (adNe (by decide)); rw [World.cell?_alloc_lt _ _ _ hbl]; exact H2.out
  have k4 : w2.cell? ⟨b, 4, none⟩ = some (.int .i64 W) := by rw [← HW2.out]; refine cell_far ?_ (adNe (by decide)); rw [World.cell?_alloc_lt _ _ _ hbl]; exact H4.out
  have f4 : w2.frozen? ⟨b, 4, none⟩ = false := by rw [← HW2.out, World.frozen?_setCell, World.frozen?_alloc_old _ _ _ (Nat.ne_of_lt hbl)]; exact HF.out 4
  have e0 : w2.cell? ⟨w.heap.size, 0, none⟩ = some (.int .i64 e.deed) := by rw [← HW2.out]; refine cell_far ?_ (adNeB hne.symm); simp
  have e1 : w2.cell? ⟨w.heap.size, 1, none⟩ = some (.int .i64 e.node) := by rw [← HW2.out]; refine cell_far ?_ (adNeB hne.symm); simp
  have e2 : w2.cell? ⟨w.heap.size, 2, none⟩ = some (.int .i64 e.key) := by rw [← HW2.out]; refine cell_far ?_ (adNeB hne.symm); simp
  have e3 : w2.cell? ⟨w.heap.size, 3, none⟩ = some (.int .i64 e.weight) := by rw [← HW2.out]; refine cell_far ?_ (adNeB hne.symm); simp
  have o2 : w2.ownsMap Tryd.prog 3 evElem m n D := by rw [← HW2.out]; exact ownsMap_setCell (HO.out.alloc _) (fun h => HM.out h.symm) _
  have O2 := Lib.hid o2
  clear o2 c3' f3'
  refine wp_region_still_tail 12 (by kernel_rfl) (by kernel_rfl) ?_
  simp only [List.take_succ_cons, List.take_zero, List.drop_succ_cons, List.drop_zero]
  change wpStill _ _ w2.drew (fun a' => wpList _ _ _ _ a' w2.drew) _ _
  generalize hw3 : w2.drew = w3
  have HW3 := Lib.hid hw3
  clear hw3
  replace k1 : w3.cell? ⟨b, 1, none⟩ = some (.map (some m)) := by rw [← HW3.out]; exact k1
  replace k2 : w3.cell? ⟨b, 2, none⟩ = some (.int .i64 F) := by rw [← HW3.out]; exact k2
  replace k4 : w3.cell? ⟨b, 4, none⟩ = some (.int .i64 W) := by rw [← HW3.out]; exact k4
  replace f4 : w3.frozen? ⟨b, 4, none⟩ = false := by rw [← HW3.out]; exact f4
  replace e0 : w3.cell? ⟨w.heap.size, 0, none⟩ = some (.int .i64 e.deed) := by rw [← HW3.out]; exact e0
  replace e1 : w3.cell? ⟨w.heap.size, 1, none⟩ = some (.int .i64 e.node) := by rw [← HW3.out]; exact e1
  replace e2 : w3.cell? ⟨w.heap.size, 2, none⟩ = some (.int .i64 e.key) := by rw [← HW3.out]; exact e2
  replace e3 : w3.cell? ⟨w.heap.size, 3, none⟩ = some (.int .i64 e.weight) := by rw [← HW3.out]; exact e3
  have o3 : w3.ownsMap Tryd.prog 3 evElem m n D := by rw [← HW3.out]; exact O2.out
  have O3 := Lib.hid o3
  clear o3
  repeat still_step
  still_call (len_quiet b m n D _ k1 O3.out)
  repeat still_step
  refine wpStill_nil ?_
  go_wp2_with (at_mapUpdate; go_loud (refine wpList_mapUpdate_own _ rfl _ _ _ 52 rfl 3 32 mLaw Tryd.underlying52 _ m n D rfl O3.out (by unfold maxLen; omega) _ _ _ rfl rfl (keyOf_int_mk Tryd.underlying3 (WalkArith.wf_i64 (by omega))) _ [] (evElem_mk e) ?_); intro w4 hown4 hgrow4)
  go_frame
  have HG := Lib.hid hgrow4
  clear hgrow4
  have hmlt : m < w.heap.size := HO.out.lt
  have hmb : some b ≠ some m := fun h => HM.out (Option.some.inj h)
  have hmB : some w.heap.size ≠ some m := fun h => by have := Option.some.inj h; omega
  replace k4 : w4.cell? ⟨b, 4, none⟩ = some (.int .i64 W) := HG.out.cell k4 hmb
  replace f4 : w4.frozen? ⟨b, 4, none⟩ = false := by rw [HG.out.frozen_far _ (by rw [← HW3.out, ← HW2.out]; simp; omega) hmb]; exact f4
  replace e0 : w4.cell? ⟨w.heap.size, 0, none⟩ = some (.int .i64 e.deed) := HG.out.cell e0 hmB
  replace e1 : w4.cell? ⟨w.heap.size, 1, none⟩ = some (.int .i64 e.node) := HG.out.cell e1 hmB
  replace e2 : w4.cell? ⟨w.heap.size, 2, none⟩ = some (.int .i64 e.key) := HG.out.cell e2 hmB
  replace e3 : w4.cell? ⟨w.heap.size, 3, none⟩ = some (.int .i64 e.weight) := HG.out.cell e3 hmB
  have hb4 : b < w4.heap.size := by
    have := HG.out.size
    have h3 : w3.heap.size = w.heap.size + 1 := by rw [← HW3.out, ← HW2.out]; simp [World.drew]
    omega
  have hb5 : b ≠ w4.heap.size := Nat.ne_of_lt hb4
  have hb6 : w4.heap.size ≠ b := Nat.ne_of_gt hb4
  clear k1 k2
  go_region_with (go_at_call 28; refine (heavy_any e _).mono ?_; rintro _ _ ⟨rfl, rfl⟩)
  all_goals (try go_wp2)
  all_goals
    go_ret
    refine ⟨rfl, w4, hown4, ?_, 1, rfl⟩
    have := HG.out
    rw [← HW3.out, ← HW2.out] at this
    exact ⟨this.os, this.tape, this.output, this.size, this.block⟩
end Go.Proofs.YtlnekfodkeifkaaDoor.W

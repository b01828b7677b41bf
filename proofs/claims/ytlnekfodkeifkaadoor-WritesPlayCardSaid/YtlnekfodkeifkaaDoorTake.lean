/- Take: the first event, or none. Conditions: the pointer leads to a buffer, whose numbers are of everyday size. -/
import Derived.Test.YtlnekfodkeifkaaDoorMeth
import Derived.Deep.DeepCutAuto
import Derived.Deep.CutBlock
namespace Go.Proofs.YtlnekfodkeifkaaDoor.W
open Go.RowKit Go.Maps
attribute [local go_sem] World.setCell_drew

theorem look_none {m n : Nat} {D : DataW Unit} {w : World} {F : Int} (h : w.ownsMap Tryd.prog 3 evElem m n D) (hF : (Lit.int .i64 F).wf = true) (hh : Maps.has D (.int .i64 F) = false) :
    (Instr.lookup 52 (.map (some m)) (.int .i64 F) true).run Tryd.prog w = .ok (.tuple #[.agg #[.int .i64 0, .int .i64 0, .int .i64 0, .int .i64 0], .bool false]) w := by
  obtain ⟨v, ps, h1, h2⟩ := h.look_ok mLaw Tryd.underlying52 (zeroEv w) (evElem_mk evZero) (keyOf_int_mk Tryd.underlying3 hF)
  rw [atKey_of_not_has hh] at h2
  have := evElem_inv h2
  subst this
  rw [h1, hh]; rfl
theorem look_some {m n : Nat} {D : DataW Unit} {w : World} {F : Int} {e : Ev} (h : w.ownsMap Tryd.prog 3 evElem m n D) (hF : (Lit.int .i64 F).wf = true) (hh : Maps.has D (.int .i64 F) = true) (ha : ∀ z, D.atKey (.int .i64 F) z = evD e) :
    (Instr.lookup 52 (.map (some m)) (.int .i64 F) true).run Tryd.prog w = .ok (.tuple #[.agg #[.int .i64 e.deed, .int .i64 e.node, .int .i64 e.key, .int .i64 e.weight], .bool true]) w := by
  obtain ⟨v, ps, h1, h2⟩ := h.look_ok mLaw Tryd.underlying52 (zeroEv w) (evElem_mk evZero) (keyOf_int_mk Tryd.underlying3 hF)
  rw [ha] at h2
  have := evElem_inv h2
  subst this
  rw [h1, hh]; rfl

set_option maxHeartbeats 2000000 in
set_option maxRecDepth 100000 in
theorem take_none (b m n : Nat) (D : DataW Unit) (F : Int) (w : World) (hbl : b < w.heap.size) (c1 : w.cell? ⟨b, 1, none⟩ = some (.map (some m))) (c2 : w.cell? ⟨b, 2, none⟩ = some (.int .i64 F)) (hown : w.ownsMap Tryd.prog 3 evElem m n D)
    (hF0 : 0 ≤ F) (hF1 : F ≤ 1000000) (hh : Maps.has D (.int .i64 F) = false) :
    Calls Tryd.prog 11 #[.pointer (some ⟨b, 0, none⟩)] w fun r w' => r = .returned (.tuple #[evV evZero, .bool false]) ∧ Below w.heap.size w w' := by
  have HO := Lib.hid hown
  have H1 := Lib.hid c1
  have H2 := Lib.hid c2
  have HH := Lib.hid hh
  clear hown c1 c2 hh
  go_enter Tryd.func11, Tryd.ntmps11
  go_wp2
  generalize hw2 : (w.alloc (.cells #[.int .i64 0, .int .i64 0, .int .i64 0, .int .i64 0] 32)) = w2
  have HW2 := Lib.hid hw2
  clear hw2
  have k1 : w2.cell? ⟨b, 1, none⟩ = some (.map (some m)) := by rw [← HW2.out, World.cell?_alloc_lt _ _ _ hbl]; exact H1.out
  have k2 : w2.cell? ⟨b, 2, none⟩ = some (.int .i64 F) := by rw [← HW2.out, World.cell?_alloc_lt _ _ _ hbl]; exact H2.out
  have o2 : w2.ownsMap Tryd.prog 3 evElem m n D := by rw [← HW2.out]; exact HO.out.alloc _
  have hb2 : b < w2.heap.size := by rw [← HW2.out]; simp; omega
  have hb3 : w2.heap.size ≠ b := Nat.ne_of_gt hb2
  have hb4 : b ≠ w2.heap.size := Nat.ne_of_lt hb2
  have hl := look_none o2.drew (WalkArith.wf_i64 (by omega)) HH.out
  have hl2 := look_none (World.ownsMap.drew (o2.alloc (.cells #[.int .i64 0, .int .i64 0, .int .i64 0, .int .i64 0] 32))) (WalkArith.wf_i64 (by omega)) HH.out
  have O2 := Lib.hid o2
  clear o2
  have hr1 : w.heap.size < w2.heap.size := by rw [← HW2.out]; simp
  have hr2 : w.heap.size ≠ w2.heap.size := Nat.ne_of_lt hr1
  have hr3 : w2.heap.size ≠ w.heap.size := Nat.ne_of_gt hr1
  have r0 : w2.cell? ⟨w.heap.size, 0, none⟩ = some (.int .i64 0) := by rw [← HW2.out]; simp
  have r1 : w2.cell? ⟨w.heap.size, 1, none⟩ = some (.int .i64 0) := by rw [← HW2.out]; simp
  have r2 : w2.cell? ⟨w.heap.size, 2, none⟩ = some (.int .i64 0) := by rw [← HW2.out]; simp
  have r3 : w2.cell? ⟨w.heap.size, 3, none⟩ = some (.int .i64 0) := by rw [← HW2.out]; simp
  have q0 : w2.frozen? ⟨w.heap.size, 0, none⟩ = false := by rw [← HW2.out]; simp
  have q1 : w2.frozen? ⟨w.heap.size, 1, none⟩ = false := by rw [← HW2.out]; simp
  have q2 : w2.frozen? ⟨w.heap.size, 2, none⟩ = false := by rw [← HW2.out]; simp
  have q3 : w2.frozen? ⟨w.heap.size, 3, none⟩ = false := by rw [← HW2.out]; simp
  go_region_with (fail)
  all_goals (try go_wp2)
  all_goals
    refine bodyPost_ret (v := .tuple #[evV evZero, .bool false]) (by simp [results, Tryd.results11, go_sem, evV, evZero, r0, r1, r2, r3, hr1]) rfl ⟨rfl, ?_⟩
    exact ((((((Below.refl _ _).alloc (Nat.le_refl _) _).trans (by rw [HW2.out]; exact Below.refl _ _)).setCell (Nat.le_refl _) _).setCell (Nat.le_refl _) _).setCell (Nat.le_refl _) _).setCell (Nat.le_refl _) _ |>.alloc (by simp; omega) _ |>.drew

set_option maxHeartbeats 4000000 in
set_option maxRecDepth 100000 in
theorem take_some (b m n : Nat) (D : DataW Unit) (F W : Int) (e : Ev) (w : World) (hbm : b ≠ m) (hbl : b < w.heap.size) (c1 : w.cell? ⟨b, 1, none⟩ = some (.map (some m))) (c2 : w.cell? ⟨b, 2, none⟩ = some (.int .i64 F)) (c4 : w.cell? ⟨b, 4, none⟩ = some (.int .i64 W)) (hf : ∀ j, w.frozen? ⟨b, j, none⟩ = false) (hown : w.ownsMap Tryd.prog 3 evElem m n D)
    (hF0 : 0 ≤ F) (hF1 : F ≤ 1000000) (hW0 : 0 ≤ W) (hW1 : W ≤ 1000000000000000) (hh : Maps.has D (.int .i64 F) = true) (ha : ∀ z, D.atKey (.int .i64 F) z = evD e) :
    Calls Tryd.prog 11 #[.pointer (some ⟨b, 0, none⟩)] w fun r w' => r = .returned (.tuple #[evV e, .bool true]) ∧ ∃ w4, w4.ownsMap Tryd.prog 3 evElem m n (D.del (.int .i64 F)) ∧ ((w.alloc (EvO evZero)).alloc (EvO e)).grownBy w4 (some m) ∧
      Only (fun k => w.heap.size ≤ k) ((w4.setCell ⟨b, 2, none⟩ (.int .i64 (F + 1))).setCell ⟨b, 4, none⟩ (.int .i64 (W - hv e.weight))) w' := by
  have hev := hv_is e.weight
  have hv2 : IntKind.i64.wrap (W - hv e.weight) = W - hv e.weight := IntWalk.i64_in _ (by omega)
  have HO := Lib.hid hown
  have H1 := Lib.hid c1
  have H2 := Lib.hid c2
  have H4 := Lib.hid c4
  have HF := Lib.hid hf
  have HM := Lib.hid hbm
  have HH := Lib.hid hh
  have HA := Lib.hid ha
  clear hown c1 c2 c4 hf hbm hh ha
  have hmlt : m < w.heap.size := HO.out.lt
  go_enter Tryd.func11, Tryd.ntmps11
  go_upto_region 1 with (fail)
  go_cut [4, 5] (fun v4 v5 wc => v4 = .pointer (some ⟨w.heap.size + 1, 0, none⟩) ∧ v5 = .bool true ∧ Hid (wc = ((w.alloc (EvO evZero)).alloc (EvO e)).drew))
  case first =>
    generalize hw2 : (w.alloc (.cells #[.int .i64 0, .int .i64 0, .int .i64 0, .int .i64 0] 32)) = w2
    have HW2 := Lib.hid hw2
    clear hw2
    have k1 : w2.cell? ⟨b, 1, none⟩ = some (.map (some m)) := by rw [← HW2.out, World.cell?_alloc_lt _ _ _ hbl]; exact H1.out
    have k2 : w2.cell? ⟨b, 2, none⟩ = some (.int .i64 F) := by rw [← HW2.out, World.cell?_alloc_lt _ _ _ hbl]; exact H2.out
    have o2 : w2.ownsMap Tryd.prog 3 evElem m n D := by rw [← HW2.out]; exact HO.out.alloc _
    have hb2 : b < w2.heap.size := by rw [← HW2.out]; simp; omega
    have hb3 : w2.heap.size ≠ b := Nat.ne_of_gt hb2
    have hb4 : b ≠ w2.heap.size := Nat.ne_of_lt hb2
    have hl := look_some o2.drew (WalkArith.wf_i64 (by omega)) HH.out HA.out
    have hl2 := look_some (World.ownsMap.drew (o2.alloc (.cells #[.int .i64 0, .int .i64 0, .int .i64 0, .int .i64 0] 32))) (WalkArith.wf_i64 (by omega)) HH.out HA.out
    clear o2
    go_region_with (fail)
    all_goals
      go_wp2
      go_meet
      case rel => exact ⟨by rw [← HW2.out]; simp, rfl, Lib.hid (by rw [← HW2.out]; rfl)⟩
  case rest =>
    obtain ⟨rfl, rfl, HWC⟩ := hcut
    have h1 : w.heap.size ≠ b := Nat.ne_of_gt hbl
    have h2 : w.heap.size + 1 ≠ b := by omega
    have cw : ∀ j v, w.cell? ⟨b, j, none⟩ = some v → wc.cell? ⟨b, j, none⟩ = some v := fun j v h => by
      rw [HWC.out]; show World.cell? ((w.alloc _).alloc _) _ = _
      rw [World.cell?_alloc_lt _ _ _ (by simp; omega), World.cell?_alloc_lt _ _ _ hbl]; exact h
    have fw : ∀ j, wc.frozen? ⟨b, j, none⟩ = false := fun j => by
      rw [HWC.out]; show World.frozen? ((w.alloc _).alloc _) _ = _
      rw [World.frozen?_alloc_old _ _ _ (by simp; omega), World.frozen?_alloc_old _ _ _ (Nat.ne_of_lt hbl)]; exact HF.out j
    have k1 := cw 1 _ H1.out
    have k2 := cw 2 _ H2.out
    have k4 := cw 4 _ H4.out
    have f2 := fw 2
    have f4 := fw 4
    clear cw fw
    have e0 : wc.cell? ⟨w.heap.size + 1, 0, none⟩ = some (.int .i64 e.deed) := by rw [HWC.out]; simp [EvO]
    have e1 : wc.cell? ⟨w.heap.size + 1, 1, none⟩ = some (.int .i64 e.node) := by rw [HWC.out]; simp [EvO]
    have e2 : wc.cell? ⟨w.heap.size + 1, 2, none⟩ = some (.int .i64 e.key) := by rw [HWC.out]; simp [EvO]
    have e3 : wc.cell? ⟨w.heap.size + 1, 3, none⟩ = some (.int .i64 e.weight) := by rw [HWC.out]; simp [EvO]
    have q : ∀ j : Nat, j < 4 → wc.cell? ⟨w.heap.size, j, none⟩ = some (.int .i64 0) := fun j hj => by
      rw [HWC.out]; show World.cell? ((w.alloc _).alloc _) _ = _
      rw [World.cell?_alloc_lt _ _ _ (by simp)]
      match j, hj with
      | 0, _ => simp [EvO, evZero]
      | 1, _ => simp [EvO, evZero]
      | 2, _ => simp [EvO, evZero]
      | 3, _ => simp [EvO, evZero]
    have g : ∀ j : Nat, wc.frozen? ⟨w.heap.size, j, none⟩ = false := fun j => by
      rw [HWC.out]; show World.frozen? ((w.alloc _).alloc _) _ = _
      rw [World.frozen?_alloc_old _ _ _ (by simp)]; simp [EvO]
    have Q0 := Lib.hid (q 0 (by omega))
    have Q1 := Lib.hid (q 1 (by omega))
    have Q2 := Lib.hid (q 2 (by omega))
    have Q3 := Lib.hid (q 3 (by omega))
    have G := Lib.hid g
    clear q g
    have hsz : wc.heap.size = w.heap.size + 2 := by rw [HWC.out]; simp [World.drew]
    have HS := Lib.hid hsz
    clear hsz
    have o3 : wc.ownsMap Tryd.prog 3 evElem m n D := by rw [HWC.out]; exact World.ownsMap.drew ((HO.out.alloc _).alloc _)
    have O3 := Lib.hid o3
    clear o3
    go_wp2
    refine wp_region_still_tail 8 (by kernel_rfl) (by kernel_rfl) ?_
    simp only [List.take_succ_cons, List.take_zero, List.drop_succ_cons, List.drop_zero]
    change wpStill _ _ wc.drew (fun a' => wpList _ _ _ _ a' wc.drew) _ _
    generalize hw3 : wc.drew = w3
    have HW3 := Lib.hid hw3
    clear hw3
    replace k1 : w3.cell? ⟨b, 1, none⟩ = some (.map (some m)) := by rw [← HW3.out]; exact k1
    replace k2 : w3.cell? ⟨b, 2, none⟩ = some (.int .i64 F) := by rw [← HW3.out]; exact k2
    have CELLS : ∀ w4 : World, w3.grownBy w4 (some m) → w4.cell? ⟨b, 2, none⟩ = some (.int .i64 F) ∧ w4.cell? ⟨b, 4, none⟩ = some (.int .i64 W) ∧ w4.frozen? ⟨b, 2, none⟩ = false ∧ w4.frozen? ⟨b, 4, none⟩ = false ∧
        w4.cell? ⟨w.heap.size + 1, 0, none⟩ = some (.int .i64 e.deed) ∧ w4.cell? ⟨w.heap.size + 1, 1, none⟩ = some (.int .i64 e.node) ∧ w4.cell? ⟨w.heap.size + 1, 2, none⟩ = some (.int .i64 e.key) ∧ w4.cell? ⟨w.heap.size + 1, 3, none⟩ = some (.int .i64 e.weight) ∧
        w4.cell? ⟨w.heap.size, 0, none⟩ = some (.int .i64 0) ∧ w4.cell? ⟨w.heap.size, 1, none⟩ = some (.int .i64 0) ∧ w4.cell? ⟨w.heap.size, 2, none⟩ = some (.int .i64 0) ∧ w4.cell? ⟨w.heap.size, 3, none⟩ = some (.int .i64 0) ∧
        (∀ j, w4.frozen? ⟨w.heap.size, j, none⟩ = false) ∧ w.heap.size + 2 ≤ w4.heap.size := by
      intro w4 hg
      have hb' : some b ≠ some m := fun h => HM.out (Option.some.inj h)
      have hr' : some w.heap.size ≠ some m := fun h => by have := Option.some.inj h; omega
      have he' : some (w.heap.size + 1) ≠ some m := fun h => by have := Option.some.inj h; omega
      have hs3 : w3.heap.size = w.heap.size + 2 := by rw [← HW3.out]; exact HS.out
      refine ⟨hg.cell k2 hb', hg.cell (by rw [← HW3.out]; exact k4) hb', ?_, ?_, hg.cell (by rw [← HW3.out]; exact e0) he', hg.cell (by rw [← HW3.out]; exact e1) he', hg.cell (by rw [← HW3.out]; exact e2) he', hg.cell (by rw [← HW3.out]; exact e3) he',
        hg.cell (by rw [← HW3.out]; exact Q0.out) hr', hg.cell (by rw [← HW3.out]; exact Q1.out) hr', hg.cell (by rw [← HW3.out]; exact Q2.out) hr', hg.cell (by rw [← HW3.out]; exact Q3.out) hr', fun j => ?_, by have := hg.size; omega⟩
      · rw [hg.frozen_far _ (by simp; omega) hb', ← HW3.out]; exact f2
      · rw [hg.frozen_far _ (by simp; omega) hb', ← HW3.out]; exact f4
      · rw [hg.frozen_far _ (by simp; omega) hr', ← HW3.out]; exact G.out j
    have CE := Lib.hid CELLS
    clear CELLS k4 f2 f4 e0 e1 e2 e3
    repeat still_step
    refine wpStill_nil ?_
    go_wp2_with (at_delete; refine wpList_delete_own _ rfl _ _ 52 3 rfl 32 mLaw Tryd.underlying52 _ m n D rfl (by rw [← HW3.out]; exact O3.out) _ _ rfl (keyOf_int_mk Tryd.underlying3 (WalkArith.wf_i64 (by omega))) ?_; intro w4 hown4 hturn4; have HT := Lib.hid hturn4.grown; have HO4 := Lib.hid hown4; clear hturn4 hown4 k1 k2; obtain ⟨k2, k4, f2, f4, e0, e1, e2, e3, q0, q1, q2, q3, g, hs4⟩ := CE.out w4 HT.out; have G4 := Lib.hid g; clear g)
    generalize hw5 : w4.setCell ⟨b, 2, none⟩ (.int .i64 (F + 1)) = w5
    have HW5 := Lib.hid hw5
    clear hw5
    replace k4 : w5.cell? ⟨b, 4, none⟩ = some (.int .i64 W) := by rw [← HW5.out]; exact cell_far k4 (adNe (by decide))
    replace f4 : w5.frozen? ⟨b, 4, none⟩ = false := by rw [← HW5.out, World.frozen?_setCell]; exact f4
    replace e0 : w5.cell? ⟨w.heap.size + 1, 0, none⟩ = some (.int .i64 e.deed) := by rw [← HW5.out]; exact cell_far e0 (adNeB h2.symm)
    replace e1 : w5.cell? ⟨w.heap.size + 1, 1, none⟩ = some (.int .i64 e.node) := by rw [← HW5.out]; exact cell_far e1 (adNeB h2.symm)
    replace e2 : w5.cell? ⟨w.heap.size + 1, 2, none⟩ = some (.int .i64 e.key) := by rw [← HW5.out]; exact cell_far e2 (adNeB h2.symm)
    replace e3 : w5.cell? ⟨w.heap.size + 1, 3, none⟩ = some (.int .i64 e.weight) := by rw [← HW5.out]; exact cell_far e3 (adNeB h2.symm)
    replace q0 : w5.cell? ⟨w.heap.size, 0, none⟩ = some (.int .i64 0) := by rw [← HW5.out]; exact cell_far q0 (adNeB h1.symm)
    replace q1 : w5.cell? ⟨w.heap.size, 1, none⟩ = some (.int .i64 0) := by rw [← HW5.out]; exact cell_far q1 (adNeB h1.symm)
    replace q2 : w5.cell? ⟨w.heap.size, 2, none⟩ = some (.int .i64 0) := by rw [← HW5.out]; exact cell_far q2 (adNeB h1.symm)
    replace q3 : w5.cell? ⟨w.heap.size, 3, none⟩ = some (.int .i64 0) := by rw [← HW5.out]; exact cell_far q3 (adNeB h1.symm)
    have g0 : w5.frozen? ⟨w.heap.size, 0, none⟩ = false := by rw [← HW5.out, World.frozen?_setCell]; exact G4.out 0
    have g1 : w5.frozen? ⟨w.heap.size, 1, none⟩ = false := by rw [← HW5.out, World.frozen?_setCell]; exact G4.out 1
    have g2 : w5.frozen? ⟨w.heap.size, 2, none⟩ = false := by rw [← HW5.out, World.frozen?_setCell]; exact G4.out 2
    have g3 : w5.frozen? ⟨w.heap.size, 3, none⟩ = false := by rw [← HW5.out, World.frozen?_setCell]; exact G4.out 3
    have hs5 : w.heap.size + 2 ≤ w5.heap.size := by rw [← HW5.out]; simpa using hs4
    have z1 : b < w5.heap.size := by omega
    have z2 : b ≠ w5.heap.size := by omega
    have z3 : w5.heap.size ≠ b := by omega
    have z4 : w.heap.size < w5.heap.size := by omega
    have z5 : w.heap.size ≠ w5.heap.size := by omega
    have z6 : w5.heap.size ≠ w.heap.size := by omega
    have z7 : w.heap.size + 1 < w5.heap.size := by omega
    have z8 : w.heap.size + 1 ≠ w5.heap.size := by omega
    have z9 : w5.heap.size ≠ w.heap.size + 1 := by omega
    have y1 : b ≠ w.heap.size := h1.symm
    have y2 : b ≠ w.heap.size + 1 := h2.symm
    clear k2 f2 hs4 hs5
    go_region_with (go_at_call 28; refine (heavy_any e _).mono ?_; rintro _ _ ⟨rfl, rfl⟩)
    all_goals (try go_wp2)
    all_goals
      refine bodyPost_ret (v := .tuple #[evV e, .bool true]) (by simp [results, Tryd.results11, go_sem, evV, q0, q1, q2, q3, z4]) rfl ⟨rfl, w4, HO4.out, ?_, ?_⟩
      · have := HT.out
        rw [← HW3.out, HWC.out] at this
        exact ⟨this.os, this.tape, this.output, this.size, this.block⟩
      · rw [HW5.out]
        refine Only.drew (Only.alloc ?_ _)
        refine Only.setCell ?_ (p := ⟨w.heap.size, 3, none⟩) (Nat.le_refl _) _
        refine Only.setCell ?_ (p := ⟨w.heap.size, 2, none⟩) (Nat.le_refl _) _
        refine Only.setCell ?_ (p := ⟨w.heap.size, 1, none⟩) (Nat.le_refl _) _
        refine Only.setCell ?_ (p := ⟨w.heap.size, 0, none⟩) (Nat.le_refl _) _
        exact Only.refl _ _
end Go.Proofs.YtlnekfodkeifkaaDoor.W

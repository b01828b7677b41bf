/- The statements' small case comes out right. Condition: errors.errorType holds the type error. -/
import Derived.Test.YtlnekfodkeifkaaDoorBufM
import Derived.Deep.RegionHeld3
import Derived.Test.YtlnekfodkeifkaaDoorWLast
namespace Go.Proofs.YtlnekfodkeifkaaDoor.W
open Go.RowKit Go.Maps Go.Proofs.YtlnekfodkeifkaaDoorW.PrintLast Go.Proofs.YtlnekfodkeifkaaDoorW.PrintWords Go.Proofs.YtlnekfodkeifkaaDoor.OC
attribute [local go_sem] World.setCell_drew
set_option linter.unusedSimpArgs false
set_option linter.unusedVariables false

/-- What stands before a part of the walk stays. -/
structure Kit (w : World) (b m : Nat) (N : Int) (L : List Ev) (F R : Int) : Prop where
  et : Err.ErrType w
  buf : Buf w b m N L F R
  pos : 0 < b ∧ 0 < m
theorem errType_kept {S : Nat → Prop} {w w' : World} (h : Err.ErrType w) (ho : Only S w w') (h0 : ¬ S 0) : Err.ErrType w' := by
  have hlt : 0 < w.heap.size := by
    rcases Nat.eq_zero_or_pos w.heap.size with h0 | h'
    · simp [Err.ErrType, World.cell?, h0] at h
    · exact h'
  unfold Err.ErrType at h ⊢
  rw [World.cell?_of_block (w := w) (ho.block 0 hlt h0)]; exact h
theorem event_any (n : Int) (w : World) : Calls Tryd.prog 15 #[.int .i64 n] w fun e w' => e = .returned (evV ⟨1, n, n, Go.bits .and .i64 n 15⟩) ∧ Below w.heap.size w w' :=
  (pantrylaw14_event.calls n 1 n n (Go.bits .and .i64 n 15) w rfl).mono fun _ _ ⟨h1, h2⟩ => ⟨h1, h2⟩
theorem event7 (w : World) : Calls Tryd.prog 15 #[.int .i64 7] w fun e w' => e = .returned (.agg #[.int .i64 1, .int .i64 7, .int .i64 7, .int .i64 7]) ∧ Below w.heap.size w w' :=
  (pantrylaw14_event.calls 7 1 7 7 7 w (by decide +kernel)).mono fun _ _ ⟨h1, h2⟩ => ⟨h1, h2⟩
theorem eqlEv (w : World) : (binOp .eql 32 (.agg #[.int .i64 1, .int .i64 7, .int .i64 7, .int .i64 7]) (.agg #[.int .i64 1, .int .i64 7, .int .i64 7, .int .i64 7])).run Tryd.prog w = .ok (.bool true) w := by kernel_rfl
theorem blk_kept {S : Nat → Prop} {w w' : World} {k : Nat} {o : Obj} (h : w.heap[k]? = some o) (ho : Only S w w') (hk : ¬ S k) : w'.heap[k]? = some o := (ho.block k (lt_block h) hk).trans h
theorem no (k : Nat) : ¬ (fun _ : Nat => False) k := fun h => h
theorem cell_kept {S : Nat → Prop} {w w' : World} {a : Addr} {v : Value} (h : w.cell? a = some v) (ho : Only S w w') (ha : ¬ S a.block) : w'.cell? a = some v := by
  have hlt : a.block < w.heap.size := World.block_lt_of_cell? w _ h
  rw [World.cell?_of_block (w := w) (ho.block a.block hlt ha)]; exact h

set_option maxHeartbeats 4000000 in
set_option maxRecDepth 100000 in
theorem small_any (w : World) (het : Err.ErrType w) : Calls Tryd.prog 7 #[] w fun e w' => e = .returned (.bool true) ∧ Below w.heap.size w w' := by
  have HET := Lib.hid het
  clear het
  go_enter Tryd.func7, Tryd.ntmps7
  go_wp2_with fail
  refine (new_any 1 _).mono ?_
  rintro e w1 ⟨b, m, rfl, hB1, hb, hm, hbel1⟩
  have hc1 : ceilV 1 = 1 := by decide
  rw [hc1] at hB1
  have B1 := Lib.hid hB1
  have E1 := Lib.hid hbel1
  clear hB1 hbel1 hc1
  go_wp2_with fail
  refine (reserveB_ok B1.out ⟨by omega, by omega, by simp, by omega⟩ (by simp)).mono ?_
  rintro e w2 ⟨rfl, hB2, ho2⟩
  have B2 := Lib.hid hB2
  have O2 := Lib.hid ho2
  clear hB2 ho2
  go_wp2_with fail
  refine (reserveB_full B2.out ⟨by omega, by omega, by simp, by omega⟩ (by simp)).mono ?_
  rintro e w3 ⟨rfl, hf3, hbel3⟩
  have F3 := Lib.hid hf3
  have E3 := Lib.hid hbel3
  clear hf3 hbel3
  go_wp2_with fail
  refine (event7 _).mono ?_
  rintro e w4 ⟨rfl, hbel4⟩
  have E4 := Lib.hid hbel4
  clear hbel4
  have hb2 := B2.out.lt
  have B4 := Lib.hid ((B2.out.kept (Only.of_below (S := fun _ => False) E3.out) (fun h => h) (fun h => h)).kept (Only.of_below (S := fun _ => False) E4.out) (fun h => h) (fun h => h))
  go_wp2_with fail
  refine (commitB_ok B4.out ⟨by omega, by omega, by simp, by omega⟩ (by omega) ⟨1, 7, 7, 7⟩).mono ?_
  rintro e w5 ⟨rfl, hB5, ho5⟩
  have B5 := Lib.hid hB5
  have O5 := Lib.hid ho5
  clear hB5 ho5
  go_wp2_with fail
  refine (reserveB_full B5.out ⟨by omega, by omega, by simp, by omega⟩ (by simp)).mono ?_
  rintro e w6 ⟨rfl, hf6, hbel6⟩
  have F6 := Lib.hid hf6
  have E6 := Lib.hid hbel6
  clear hf6 hbel6
  have B6 := Lib.hid (B5.out.kept (Only.of_below (S := fun _ => False) E6.out) (fun h => h) (fun h => h))
  go_wp2_with fail
  refine (weightB B6.out).mono ?_
  rintro e w6' ⟨he6, rfl⟩
  rw [show wt ([] ++ [⟨1, 7, 7, 7⟩]) = 7 from by decide +kernel] at he6
  subst he6
  go_wp2_with fail
  refine (takeB_some B6.out ⟨by omega, by omega, by simp, by omega⟩).mono ?_
  rintro e w7 ⟨rfl, hB7, ho7⟩
  have B7 := Lib.hid hB7
  have O7 := Lib.hid ho7
  clear hB7 ho7
  unfold evV
  go_wp2_with fail
  refine (reserveB_ok (B7.out.kept ((Only.refl (fun _ => False) _).alloc _) (fun h => h) (fun h => h)) ⟨by omega, by omega, by simp, by omega⟩ (by simp)).mono ?_
  rintro e w9 ⟨rfl, hB9, ho9⟩
  have B9 := Lib.hid hB9
  have O9 := Lib.hid ho9
  clear hB9 ho9
  -- what stands before the last test
  have s1 := B1.out.lt
  have z12 := O2.out.size
  have z23 := E3.out.size
  have z34 := E4.out.size
  have z45 := O5.out.size
  have z56 := E6.out.size
  have z67 := O7.out.size
  have n1 : ¬ BM b m w2.heap.size := fun h => by rcases h with h | h <;> omega
  have n2 : ¬ BM b m w5.heap.size := fun h => by rcases h with h | h <;> omega
  have n3 : ¬ BM b m w7.heap.size := fun h => by rcases h with h | h <;> omega
  have n0 : ¬ BM b m 0 := fun h => by
    have hw0 : 0 < w.heap.size := by
      rcases Nat.eq_zero_or_pos w.heap.size with h0 | h'
      · have := HET.out; simp [Err.ErrType, World.cell?, h0] at this
      · exact h'
    rcases h with h | h <;> omega
  have F6' := Lib.hid (blk_kept (blk_kept (blk_kept F6.out O7.out n2) ((Only.refl (fun _ => False) _).alloc (.cells #[.int .i64 1, .int .i64 7, .int .i64 7, .int .i64 7] 32)) (fun h => h)) O9.out n2)
  have F3' := Lib.hid (blk_kept (blk_kept (blk_kept (blk_kept (blk_kept (blk_kept F3.out (Only.of_below (S := fun _ => False) E4.out) (fun h => h)) O5.out n1) (Only.of_below (S := fun _ => False) E6.out) (fun h => h)) O7.out n1) ((Only.refl (fun _ => False) _).alloc (.cells #[.int .i64 1, .int .i64 7, .int .i64 7, .int .i64 7] 32)) (fun h => h)) O9.out n1)
  have V9 := Lib.hid (blk_kept (heapNew w7 (.cells #[.int .i64 1, .int .i64 7, .int .i64 7, .int .i64 7] 32)) O9.out n3)
  have T9 := Lib.hid (errType_kept (errType_kept (errType_kept (errType_kept (errType_kept (errType_kept (errType_kept (errType_kept (errType_kept HET.out (Only.of_below (S := fun _ => False) E1.out) (fun h => h)) O2.out n0) (Only.of_below (S := fun _ => False) E3.out) (fun h => h)) (Only.of_below (S := fun _ => False) E4.out) (fun h => h)) O5.out n0) (Only.of_below (S := fun _ => False) E6.out) (fun h => h)) O7.out n0) ((Only.refl (fun _ => False) _).alloc (.cells #[.int .i64 1, .int .i64 7, .int .i64 7, .int .i64 7] 32)) (fun h => h)) O9.out n0)
  go_wp2_with fail
  have c1 : w9.cell? ⟨w2.heap.size, 0, none⟩ = some (.int .i64 2) := by have := F3'.out; simp [World.cell?, this]
  have c2 : w9.cell? ⟨w5.heap.size, 0, none⟩ = some (.int .i64 2) := by have := F6'.out; simp [World.cell?, this]
  have v0 : w9.cell? ⟨w7.heap.size, 0, none⟩ = some (.int .i64 1) := by have := V9.out; simp [World.cell?, this]
  have v1 : w9.cell? ⟨w7.heap.size, 1, none⟩ = some (.int .i64 7) := by have := V9.out; simp [World.cell?, this]
  have v2 : w9.cell? ⟨w7.heap.size, 2, none⟩ = some (.int .i64 7) := by have := V9.out; simp [World.cell?, this]
  have v3 : w9.cell? ⟨w7.heap.size, 3, none⟩ = some (.int .i64 7) := by have := V9.out; simp [World.cell?, this]
  have ST : Hid (∀ X : World, Below w9.heap.size w9 X → Err.ErrType X ∧ X.cell? ⟨w2.heap.size, 0, none⟩ = some (.int .i64 2) ∧ X.cell? ⟨w5.heap.size, 0, none⟩ = some (.int .i64 2) ∧ X.cell? ⟨w7.heap.size, 0, none⟩ = some (.int .i64 1) ∧ X.cell? ⟨w7.heap.size, 1, none⟩ = some (.int .i64 7) ∧ X.cell? ⟨w7.heap.size, 2, none⟩ = some (.int .i64 7) ∧ X.cell? ⟨w7.heap.size, 3, none⟩ = some (.int .i64 7) ∧ Buf X b m 1 [] (0 + 1) (0 + 1 - 1 + 1)) := by
    refine Lib.hid fun X hX => ?_
    have ho := Only.of_below (S := fun _ => False) hX
    exact ⟨errType_kept T9.out ho (fun h => h), cell_kept c1 ho (fun h => h), cell_kept c2 ho (fun h => h), cell_kept v0 ho (fun h => h), cell_kept v1 ho (fun h => h), cell_kept v2 ho (fun h => h), cell_kept v3 ho (fun h => h), B9.out.kept ho (fun h => h) (fun h => h)⟩
  clear c1 c2 v0 v1 v2 v3
  have BL : Hid (Below w9.heap.size w9 w9.drew) := Lib.hid ((Below.refl _ _).drew)
  have eqE := eqlEv
  refine start_ (n := 48) (S := fun w' => w'.cell? ⟨w7.heap.size, 0, none⟩ = some (.int .i64 1) ∧ w'.cell? ⟨w7.heap.size, 1, none⟩ = some (.int .i64 7) ∧ w'.cell? ⟨w7.heap.size, 2, none⟩ = some (.int .i64 7) ∧ w'.cell? ⟨w7.heap.size, 3, none⟩ = some (.int .i64 7)) (ds := []) #[false, false, false, false, false, false, false, false, false, false, false, false, false, false, false, false, false, false, false, false, false, false, false, false, false, false, false, false, false, false, false, false, false, false, false, false, false, false, false, false, false, false, false, false, false, false, false, false] (by kernel_rfl) rfl rfl ⟨(ST.out _ BL.out).2.2.2.1, (ST.out _ BL.out).2.2.2.2.1, (ST.out _ BL.out).2.2.2.2.2.1, (ST.out _ BL.out).2.2.2.2.2.2.1⟩ (fun hHeld => ?_)
  refine pure_ (i := 0) (N := some 31) (v := ?_) (a' := ?_) #[true, false, false, false, false, false, false, false, false, false, false, false, false, false, false, false, false, false, false, false, false, false, false, false, false, false, false, false, false, false, false, false, false, false, false, false, false, false, false, false, false, false, false, false, false, false, false, false] rfl rfl (by kernel_rfl) (fun _ _ _ h => h) (Or.inl ⟨by rfl, ?_⟩) ?_ ?_
  rotate_left
  · intro w'
    go_simp
    with_reducible rfl
  rotate_left
  · simp only [Act.put, List.setIfInBounds_toArray, List.set_cons_zero, List.set_cons_succ, i64_w, i32_w]
    rfl
  refine pure_ (i := 1) (N := some 32) (v := ?_) (a' := ?_) #[true, true, false, false, false, false, false, false, false, false, false, false, false, false, false, false, false, false, false, false, false, false, false, false, false, false, false, false, false, false, false, false, false, false, false, false, false, false, false, false, false, false, false, false, false, false, false, false] rfl rfl (by kernel_rfl) (fun _ _ _ h => h) (Or.inl ⟨by rfl, ?_⟩) ?_ ?_
  rotate_left
  · intro w'
    go_simp
    with_reducible rfl
  rotate_left
  · simp only [Act.put, List.setIfInBounds_toArray, List.set_cons_zero, List.set_cons_succ, i64_w, i32_w]
    rfl
  refine pure_ (i := 2) (N := some 33) (v := ?_) (a' := ?_) #[true, true, true, false, false, false, false, false, false, false, false, false, false, false, false, false, false, false, false, false, false, false, false, false, false, false, false, false, false, false, false, false, false, false, false, false, false, false, false, false, false, false, false, false, false, false, false, false] rfl rfl (by kernel_rfl) (fun _ _ _ h => h) (Or.inl ⟨by rfl, ?_⟩) ?_ ?_
  rotate_left
  · intro w'
    go_simp
    with_reducible rfl
  rotate_left
  · simp only [Act.put, List.setIfInBounds_toArray, List.set_cons_zero, List.set_cons_succ, i64_w, i32_w]
    rfl
  refine pure_ (i := 3) (N := some 34) (v := ?_) (a' := ?_) #[true, true, true, true, false, false, false, false, false, false, false, false, false, false, false, false, false, false, false, false, false, false, false, false, false, false, false, false, false, false, false, false, false, false, false, false, false, false, false, false, false, false, false, false, false, false, false, false] rfl rfl (by kernel_rfl) (fun _ _ _ h => h) (Or.inl ⟨by rfl, ?_⟩) ?_ ?_
  rotate_left
  · intro w'
    go_simp
    with_reducible rfl
  rotate_left
  · simp only [Act.put, List.setIfInBounds_toArray, List.set_cons_zero, List.set_cons_succ, i64_w, i32_w]
    rfl
  refine one_ (i := 4) (N := some 35) #[true, true, true, true, true, false, false, false, false, false, false, false, false, false, false, false, false, false, false, false, false, false, false, false, false, false, false, false, false, false, false, false, false, false, false, false, false, false, false, false, false, false, false, false, false, false, false, false] rfl rfl (by kernel_rfl) (by decide) (fun K hK => ?_)
  refine goes_ Tryd.func26 (by kernel_rfl) rfl #[.iface 56 (.pointer (some ⟨w2.heap.size, 0, none⟩))] (by rfl) rfl rfl (by simp only [List.map_toArray, List.map_cons, List.map_nil]; rfl) ?_
  with_reducible refine (Err.number_any _ 2 _ (ST.out _ BL.out).1 (ST.out _ BL.out).2.1).mono ?_
  rintro e w10 ⟨rfl, hbel10⟩
  refine ⟨_, rfl, ?_⟩
  have E10 := Lib.hid (BL.out.trans (hbel10.mono (Nat.le_refl _)))
  clear hbel10
  refine hK.out _ _ ⟨(ST.out _ E10.out).2.2.2.1, (ST.out _ E10.out).2.2.2.2.1, (ST.out _ E10.out).2.2.2.2.2.1, (ST.out _ E10.out).2.2.2.2.2.2.1⟩ (fun hHeld => ?_)
  clear hK K
  refine norm_ (a' := ?_) ?_ ?_
  rotate_left
  · show Act.put _ (some 35) _ = _
    simp only [Act.put, List.setIfInBounds_toArray, List.set_cons_zero, List.set_cons_succ, i64_w, i32_w]
    rfl
  refine pure_ (i := 5) (N := some 36) (v := ?_) (a' := ?_) #[true, true, true, true, true, true, false, false, false, false, false, false, false, false, false, false, false, false, false, false, false, false, false, false, false, false, false, false, false, false, false, false, false, false, false, false, false, false, false, false, false, false, false, false, false, false, false, false] rfl rfl (by kernel_rfl) (fun _ _ _ h => h) (Or.inl ⟨by rfl, ?_⟩) ?_ ?_
  rotate_left
  · intro w'
    go_simp
    with_reducible rfl
  rotate_left
  · simp only [Act.put, List.setIfInBounds_toArray, List.set_cons_zero, List.set_cons_succ, i64_w, i32_w]
    rfl
  refine pure_ (i := 6) (N := some 37) (v := ?_) (a' := ?_) #[true, true, true, true, true, true, true, false, false, false, false, false, false, false, false, false, false, false, false, false, false, false, false, false, false, false, false, false, false, false, false, false, false, false, false, false, false, false, false, false, false, false, false, false, false, false, false, false] rfl rfl (by kernel_rfl) (fun _ _ _ h => h) (Or.inl ⟨by rfl, ?_⟩) ?_ ?_
  rotate_left
  · intro w'
    go_simp
    with_reducible rfl
  rotate_left
  · simp only [Act.put, List.setIfInBounds_toArray, List.set_cons_zero, List.set_cons_succ, i64_w, i32_w]
    rfl
  refine pure_ (i := 7) (N := some 38) (v := ?_) (a' := ?_) #[true, true, true, true, true, true, true, true, false, false, false, false, false, false, false, false, false, false, false, false, false, false, false, false, false, false, false, false, false, false, false, false, false, false, false, false, false, false, false, false, false, false, false, false, false, false, false, false] rfl rfl (by kernel_rfl) (fun _ _ _ h => h) (Or.inl ⟨by rfl, ?_⟩) ?_ ?_
  rotate_left
  · intro w'
    go_simp
    with_reducible rfl
  rotate_left
  · simp only [Act.put, List.setIfInBounds_toArray, List.set_cons_zero, List.set_cons_succ, i64_w, i32_w]
    rfl
  refine pure_ (i := 8) (N := some 39) (v := ?_) (a' := ?_) #[true, true, true, true, true, true, true, true, true, false, false, false, false, false, false, false, false, false, false, false, false, false, false, false, false, false, false, false, false, false, false, false, false, false, false, false, false, false, false, false, false, false, false, false, false, false, false, false] rfl rfl (by kernel_rfl) (fun _ _ _ h => h) (Or.inl ⟨by rfl, ?_⟩) ?_ ?_
  rotate_left
  · intro w'
    go_simp
    with_reducible rfl
  rotate_left
  · simp only [Act.put, List.setIfInBounds_toArray, List.set_cons_zero, List.set_cons_succ, i64_w, i32_w]
    rfl
  refine pure_ (i := 9) (N := some 40) (v := ?_) (a' := ?_) #[true, true, true, true, true, true, true, true, true, true, false, false, false, false, false, false, false, false, false, false, false, false, false, false, false, false, false, false, false, false, false, false, false, false, false, false, false, false, false, false, false, false, false, false, false, false, false, false] rfl rfl (by kernel_rfl) (fun _ _ _ h => h) (Or.inl ⟨by rfl, ?_⟩) ?_ ?_
  rotate_left
  · intro w'
    go_simp
    with_reducible rfl
  rotate_left
  · simp only [Act.put, List.setIfInBounds_toArray, List.set_cons_zero, List.set_cons_succ, i64_w, i32_w]
    rfl
  refine pure_ (i := 10) (N := some 41) (v := ?_) (a' := ?_) #[true, true, true, true, true, true, true, true, true, true, true, false, false, false, false, false, false, false, false, false, false, false, false, false, false, false, false, false, false, false, false, false, false, false, false, false, false, false, false, false, false, false, false, false, false, false, false, false] rfl rfl (by kernel_rfl) (fun _ _ _ h => h) (Or.inl ⟨by rfl, ?_⟩) ?_ ?_
  rotate_left
  · intro w'
    go_simp
    with_reducible rfl
  rotate_left
  · simp only [Act.put, List.setIfInBounds_toArray, List.set_cons_zero, List.set_cons_succ, i64_w, i32_w]
    rfl
  refine pure_ (i := 11) (N := some 42) (v := ?_) (a' := ?_) #[true, true, true, true, true, true, true, true, true, true, true, true, false, false, false, false, false, false, false, false, false, false, false, false, false, false, false, false, false, false, false, false, false, false, false, false, false, false, false, false, false, false, false, false, false, false, false, false] rfl rfl (by kernel_rfl) (fun _ _ _ h => h) (Or.inl ⟨by rfl, ?_⟩) ?_ ?_
  rotate_left
  · intro w'
    go_simp
    with_reducible rfl
  rotate_left
  · simp only [Act.put, List.setIfInBounds_toArray, List.set_cons_zero, List.set_cons_succ, i64_w, i32_w]
    rfl
  refine pure_ (i := 12) (N := some 43) (v := ?_) (a' := ?_) #[true, true, true, true, true, true, true, true, true, true, true, true, true, false, false, false, false, false, false, false, false, false, false, false, false, false, false, false, false, false, false, false, false, false, false, false, false, false, false, false, false, false, false, false, false, false, false, false] rfl rfl (by kernel_rfl) (fun _ _ _ h => h) (Or.inl ⟨by rfl, ?_⟩) ?_ ?_
  rotate_left
  · intro w'
    go_simp
    with_reducible rfl
  rotate_left
  · simp only [Act.put, List.setIfInBounds_toArray, List.set_cons_zero, List.set_cons_succ, i64_w, i32_w]
    rfl
  refine one_ (i := 13) (N := some 44) #[true, true, true, true, true, true, true, true, true, true, true, true, true, true, false, false, false, false, false, false, false, false, false, false, false, false, false, false, false, false, false, false, false, false, false, false, false, false, false, false, false, false, false, false, false, false, false, false] rfl rfl (by kernel_rfl) (by decide) (fun K hK => ?_)
  refine goes_ Tryd.func26 (by kernel_rfl) rfl #[.iface 56 (.pointer (some ⟨w5.heap.size, 0, none⟩))] (by rfl) rfl rfl (by simp only [List.map_toArray, List.map_cons, List.map_nil]; rfl) ?_
  with_reducible refine (Err.number_any _ 2 _ (ST.out _ E10.out).1 (ST.out _ E10.out).2.2.1).mono ?_
  rintro e w11 ⟨rfl, hbel11⟩
  refine ⟨_, rfl, ?_⟩
  have E11 := Lib.hid (E10.out.trans (hbel11.mono E10.out.size))
  clear hbel11
  refine hK.out _ _ ⟨(ST.out _ E11.out).2.2.2.1, (ST.out _ E11.out).2.2.2.2.1, (ST.out _ E11.out).2.2.2.2.2.1, (ST.out _ E11.out).2.2.2.2.2.2.1⟩ (fun hHeld => ?_)
  clear hK K
  refine norm_ (a' := ?_) ?_ ?_
  rotate_left
  · show Act.put _ (some 44) _ = _
    simp only [Act.put, List.setIfInBounds_toArray, List.set_cons_zero, List.set_cons_succ, i64_w, i32_w]
    rfl
  refine pure_ (i := 14) (N := some 45) (v := ?_) (a' := ?_) #[true, true, true, true, true, true, true, true, true, true, true, true, true, true, true, false, false, false, false, false, false, false, false, false, false, false, false, false, false, false, false, false, false, false, false, false, false, false, false, false, false, false, false, false, false, false, false, false] rfl rfl (by kernel_rfl) (fun _ _ _ h => h) (Or.inl ⟨by rfl, ?_⟩) ?_ ?_
  rotate_left
  · intro w'
    go_simp
    with_reducible rfl
  rotate_left
  · simp only [Act.put, List.setIfInBounds_toArray, List.set_cons_zero, List.set_cons_succ, i64_w, i32_w]
    rfl
  refine pure_ (i := 15) (N := some 46) (v := ?_) (a' := ?_) #[true, true, true, true, true, true, true, true, true, true, true, true, true, true, true, true, false, false, false, false, false, false, false, false, false, false, false, false, false, false, false, false, false, false, false, false, false, false, false, false, false, false, false, false, false, false, false, false] rfl rfl (by kernel_rfl) (fun _ _ _ h => h) (Or.inl ⟨by rfl, ?_⟩) ?_ ?_
  rotate_left
  · intro w'
    go_simp
    with_reducible rfl
  rotate_left
  · simp only [Act.put, List.setIfInBounds_toArray, List.set_cons_zero, List.set_cons_succ, i64_w, i32_w]
    rfl
  refine pure_ (i := 16) (N := some 47) (v := ?_) (a' := ?_) #[true, true, true, true, true, true, true, true, true, true, true, true, true, true, true, true, true, false, false, false, false, false, false, false, false, false, false, false, false, false, false, false, false, false, false, false, false, false, false, false, false, false, false, false, false, false, false, false] rfl rfl (by kernel_rfl) (fun _ _ _ h => h) (Or.inl ⟨by rfl, ?_⟩) ?_ ?_
  rotate_left
  · intro w'
    go_simp
    with_reducible rfl
  rotate_left
  · simp only [Act.put, List.setIfInBounds_toArray, List.set_cons_zero, List.set_cons_succ, i64_w, i32_w]
    rfl
  refine pure_ (i := 17) (N := some 48) (v := ?_) (a' := ?_) #[true, true, true, true, true, true, true, true, true, true, true, true, true, true, true, true, true, true, false, false, false, false, false, false, false, false, false, false, false, false, false, false, false, false, false, false, false, false, false, false, false, false, false, false, false, false, false, false] rfl rfl (by kernel_rfl) (fun _ _ _ h => h) (Or.inl ⟨by rfl, ?_⟩) ?_ ?_
  rotate_left
  · intro w'
    go_simp
    with_reducible rfl
  rotate_left
  · simp only [Act.put, List.setIfInBounds_toArray, List.set_cons_zero, List.set_cons_succ, i64_w, i32_w]
    rfl
  refine pure_ (i := 18) (N := some 49) (v := ?_) (a' := ?_) #[true, true, true, true, true, true, true, true, true, true, true, true, true, true, true, true, true, true, true, false, false, false, false, false, false, false, false, false, false, false, false, false, false, false, false, false, false, false, false, false, false, false, false, false, false, false, false, false] rfl rfl (by kernel_rfl) (fun _ _ _ h => h) (Or.inl ⟨by rfl, ?_⟩) ?_ ?_
  rotate_left
  · intro w'
    go_simp
    with_reducible rfl
  rotate_left
  · simp only [Act.put, List.setIfInBounds_toArray, List.set_cons_zero, List.set_cons_succ, i64_w, i32_w]
    rfl
  refine pure_ (i := 19) (N := some 50) (v := ?_) (a' := ?_) #[true, true, true, true, true, true, true, true, true, true, true, true, true, true, true, true, true, true, true, true, false, false, false, false, false, false, false, false, false, false, false, false, false, false, false, false, false, false, false, false, false, false, false, false, false, false, false, false] rfl rfl (by kernel_rfl) (fun _ _ _ h => h) (Or.inl ⟨by rfl, ?_⟩) ?_ ?_
  rotate_left
  · intro w'
    go_simp
    with_reducible rfl
  rotate_left
  · simp only [Act.put, List.setIfInBounds_toArray, List.set_cons_zero, List.set_cons_succ, i64_w, i32_w]
    rfl
  refine pure_ (i := 20) (N := some 51) (v := ?_) (a' := ?_) #[true, true, true, true, true, true, true, true, true, true, true, true, true, true, true, true, true, true, true, true, true, false, false, false, false, false, false, false, false, false, false, false, false, false, false, false, false, false, false, false, false, false, false, false, false, false, false, false] rfl rfl (by kernel_rfl) (fun _ _ _ h => h) (Or.inl ⟨by rfl, ?_⟩) ?_ ?_
  rotate_left
  · intro w'
    go_simp
    with_reducible rfl
  rotate_left
  · simp only [Act.put, List.setIfInBounds_toArray, List.set_cons_zero, List.set_cons_succ, i64_w, i32_w]
    rfl
  refine take_ (i := 21) (N := some 52) (v := ?_) (a' := ?_) #[true, true, true, true, true, true, true, true, true, true, true, true, true, true, true, true, true, true, true, true, true, true, false, false, false, false, false, false, false, false, false, false, false, false, false, false, false, false, false, false, false, false, false, false, false, false, false, false] rfl rfl (by kernel_rfl) (fun _ _ _ h => h) (Or.inl ⟨by rfl, ?_⟩) hHeld ?_ ?_
  rotate_left
  · rintro w' ⟨s0, s1, s2, s3⟩
    go_simp
    with_reducible rfl
  rotate_left
  · simp only [Act.put, List.setIfInBounds_toArray, List.set_cons_zero, List.set_cons_succ, i64_w, i32_w]
    rfl
  refine one_ (i := 22) (N := some 53) #[true, true, true, true, true, true, true, true, true, true, true, true, true, true, true, true, true, true, true, true, true, true, true, false, false, false, false, false, false, false, false, false, false, false, false, false, false, false, false, false, false, false, false, false, false, false, false, false] rfl rfl (by kernel_rfl) (by decide) (fun K hK => ?_)
  refine goes_ Tryd.func15 (by kernel_rfl) rfl #[.int .i64 7] (by rfl) rfl rfl (by simp only [List.map_toArray, List.map_cons, List.map_nil]; rfl) ?_
  with_reducible refine (event7 _).mono ?_
  rintro e w12 ⟨rfl, hbel12⟩
  refine ⟨_, rfl, ?_⟩
  have E12 := Lib.hid (E11.out.trans (hbel12.mono E11.out.size))
  clear hbel12
  refine hK.out _ _ ⟨(ST.out _ E12.out).2.2.2.1, (ST.out _ E12.out).2.2.2.2.1, (ST.out _ E12.out).2.2.2.2.2.1, (ST.out _ E12.out).2.2.2.2.2.2.1⟩ (fun hHeld => ?_)
  clear hK K
  refine norm_ (a' := ?_) ?_ ?_
  rotate_left
  · show Act.put _ (some 53) _ = _
    simp only [Act.put, List.setIfInBounds_toArray, List.set_cons_zero, List.set_cons_succ, i64_w, i32_w]
    rfl
  refine pure_ (i := 23) (N := some 54) (v := ?_) (a' := ?_) #[true, true, true, true, true, true, true, true, true, true, true, true, true, true, true, true, true, true, true, true, true, true, true, true, false, false, false, false, false, false, false, false, false, false, false, false, false, false, false, false, false, false, false, false, false, false, false, false] rfl rfl (by kernel_rfl) (fun _ _ _ h => h) (Or.inl ⟨by rfl, ?_⟩) ?_ ?_
  rotate_left
  · intro w'
    go_simp
    with_reducible rfl
  rotate_left
  · simp only [Act.put, List.setIfInBounds_toArray, List.set_cons_zero, List.set_cons_succ, i64_w, i32_w]
    rfl
  refine pure_ (i := 24) (N := some 55) (v := ?_) (a' := ?_) #[true, true, true, true, true, true, true, true, true, true, true, true, true, true, true, true, true, true, true, true, true, true, true, true, true, false, false, false, false, false, false, false, false, false, false, false, false, false, false, false, false, false, false, false, false, false, false, false] rfl rfl (by kernel_rfl) (fun _ _ _ h => h) (Or.inl ⟨by rfl, ?_⟩) ?_ ?_
  rotate_left
  · intro w'
    go_simp
    with_reducible rfl
  rotate_left
  · simp only [Act.put, List.setIfInBounds_toArray, List.set_cons_zero, List.set_cons_succ, i64_w, i32_w]
    rfl
  refine pure_ (i := 25) (N := some 56) (v := ?_) (a' := ?_) #[true, true, true, true, true, true, true, true, true, true, true, true, true, true, true, true, true, true, true, true, true, true, true, true, true, true, false, false, false, false, false, false, false, false, false, false, false, false, false, false, false, false, false, false, false, false, false, false] rfl rfl (by kernel_rfl) (fun _ _ _ h => h) (Or.inl ⟨by rfl, ?_⟩) ?_ ?_
  rotate_left
  · intro w'
    go_simp
    with_reducible rfl
  rotate_left
  · simp only [Act.put, List.setIfInBounds_toArray, List.set_cons_zero, List.set_cons_succ, i64_w, i32_w]
    rfl
  refine pure_ (i := 26) (N := some 57) (v := ?_) (a' := ?_) #[true, true, true, true, true, true, true, true, true, true, true, true, true, true, true, true, true, true, true, true, true, true, true, true, true, true, true, false, false, false, false, false, false, false, false, false, false, false, false, false, false, false, false, false, false, false, false, false] rfl rfl (by kernel_rfl) (fun _ _ _ h => h) (Or.inl ⟨by rfl, ?_⟩) ?_ ?_
  rotate_left
  · intro w'
    go_simp
    with_reducible rfl
  rotate_left
  · simp only [Act.put, List.setIfInBounds_toArray, List.set_cons_zero, List.set_cons_succ, i64_w, i32_w]
    rfl
  refine pure_ (i := 27) (N := some 58) (v := ?_) (a' := ?_) #[true, true, true, true, true, true, true, true, true, true, true, true, true, true, true, true, true, true, true, true, true, true, true, true, true, true, true, true, false, false, false, false, false, false, false, false, false, false, false, false, false, false, false, false, false, false, false, false] rfl rfl (by kernel_rfl) (fun _ _ _ h => h) (Or.inl ⟨by rfl, ?_⟩) ?_ ?_
  rotate_left
  · intro w'
    go_simp
    with_reducible rfl
  rotate_left
  · simp only [Act.put, List.setIfInBounds_toArray, List.set_cons_zero, List.set_cons_succ, i64_w, i32_w]
    rfl
  refine pure_ (i := 28) (N := some 59) (v := ?_) (a' := ?_) #[true, true, true, true, true, true, true, true, true, true, true, true, true, true, true, true, true, true, true, true, true, true, true, true, true, true, true, true, true, false, false, false, false, false, false, false, false, false, false, false, false, false, false, false, false, false, false, false] rfl rfl (by kernel_rfl) (fun _ _ _ h => h) (Or.inl ⟨by rfl, ?_⟩) ?_ ?_
  rotate_left
  · intro w'
    go_simp
    with_reducible rfl
  rotate_left
  · simp only [Act.put, List.setIfInBounds_toArray, List.set_cons_zero, List.set_cons_succ, i64_w, i32_w]
    rfl
  refine pure_ (i := 29) (N := some 60) (v := ?_) (a' := ?_) #[true, true, true, true, true, true, true, true, true, true, true, true, true, true, true, true, true, true, true, true, true, true, true, true, true, true, true, true, true, true, false, false, false, false, false, false, false, false, false, false, false, false, false, false, false, false, false, false] rfl rfl (by kernel_rfl) (fun _ _ _ h => h) (Or.inl ⟨by rfl, ?_⟩) ?_ ?_
  rotate_left
  · intro w'
    go_simp
    with_reducible rfl
  rotate_left
  · simp only [Act.put, List.setIfInBounds_toArray, List.set_cons_zero, List.set_cons_succ, i64_w, i32_w]
    rfl
  refine pure_ (i := 30) (N := some 61) (v := ?_) (a' := ?_) #[true, true, true, true, true, true, true, true, true, true, true, true, true, true, true, true, true, true, true, true, true, true, true, true, true, true, true, true, true, true, true, false, false, false, false, false, false, false, false, false, false, false, false, false, false, false, false, false] rfl rfl (by kernel_rfl) (fun _ _ _ h => h) (Or.inl ⟨by rfl, ?_⟩) ?_ ?_
  rotate_left
  · intro w'
    go_simp
    with_reducible rfl
  rotate_left
  · simp only [Act.put, List.setIfInBounds_toArray, List.set_cons_zero, List.set_cons_succ, i64_w, i32_w]
    rfl
  refine pure_ (i := 31) (N := some 62) (v := ?_) (a' := ?_) #[true, true, true, true, true, true, true, true, true, true, true, true, true, true, true, true, true, true, true, true, true, true, true, true, true, true, true, true, true, true, true, true, false, false, false, false, false, false, false, false, false, false, false, false, false, false, false, false] rfl rfl (by kernel_rfl) (fun _ _ _ h => h) (Or.inl ⟨by rfl, ?_⟩) ?_ ?_
  rotate_left
  · intro w'
    go_simp
    with_reducible rfl
  rotate_left
  · simp only [Act.put, List.setIfInBounds_toArray, List.set_cons_zero, List.set_cons_succ, i64_w, i32_w]
    rfl
  refine pure_ (i := 32) (N := some 63) (v := ?_) (a' := ?_) #[true, true, true, true, true, true, true, true, true, true, true, true, true, true, true, true, true, true, true, true, true, true, true, true, true, true, true, true, true, true, true, true, true, false, false, false, false, false, false, false, false, false, false, false, false, false, false, false] rfl rfl (by kernel_rfl) (fun _ _ _ h => h) (Or.inl ⟨by rfl, ?_⟩) ?_ ?_
  rotate_left
  · intro w'
    go_simp
    with_reducible rfl
  rotate_left
  · simp only [Act.put, List.setIfInBounds_toArray, List.set_cons_zero, List.set_cons_succ, i64_w, i32_w]
    rfl
  refine pure_ (i := 33) (N := some 64) (v := ?_) (a' := ?_) #[true, true, true, true, true, true, true, true, true, true, true, true, true, true, true, true, true, true, true, true, true, true, true, true, true, true, true, true, true, true, true, true, true, true, false, false, false, false, false, false, false, false, false, false, false, false, false, false] rfl rfl (by kernel_rfl) (fun _ _ _ h => h) (Or.inl ⟨by rfl, ?_⟩) ?_ ?_
  rotate_left
  · intro w'
    go_simp
    with_reducible rfl
  rotate_left
  · simp only [Act.put, List.setIfInBounds_toArray, List.set_cons_zero, List.set_cons_succ, i64_w, i32_w]
    rfl
  refine one_ (i := 34) (N := some 65) #[true, true, true, true, true, true, true, true, true, true, true, true, true, true, true, true, true, true, true, true, true, true, true, true, true, true, true, true, true, true, true, true, true, true, true, false, false, false, false, false, false, false, false, false, false, false, false, false] rfl rfl (by kernel_rfl) (by decide) (fun K hK => ?_)
  refine goes_ Tryd.func16 (by kernel_rfl) rfl #[.pointer (some ⟨b, 0, none⟩)] (by rfl) rfl rfl (by simp only [List.map_toArray, List.map_cons, List.map_nil]; rfl) ?_
  with_reducible refine (cancelB_ok (ST.out _ E12.out).2.2.2.2.2.2.2 ⟨by omega, by omega, by simp, by omega⟩ (by omega)).mono ?_
  rintro e w13 ⟨rfl, hB13, ho13⟩
  refine ⟨_, rfl, ?_⟩
  have B13 := Lib.hid (show Buf w13 b m 1 [] (0 + 1) 0 from hB13)
  have O13 := Lib.hid ho13
  clear hB13 ho13
  refine hK.out _ _ ⟨(cell_kept (ST.out _ E12.out).2.2.2.1 O13.out n3), (cell_kept (ST.out _ E12.out).2.2.2.2.1 O13.out n3), (cell_kept (ST.out _ E12.out).2.2.2.2.2.1 O13.out n3), (cell_kept (ST.out _ E12.out).2.2.2.2.2.2.1 O13.out n3)⟩ (fun hHeld => ?_)
  clear hK K
  refine norm_ (a' := ?_) ?_ ?_
  rotate_left
  · show Act.put _ (some 65) _ = _
    simp only [Act.put, List.setIfInBounds_toArray, List.set_cons_zero, List.set_cons_succ, i64_w, i32_w]
    rfl
  refine pure_ (i := 35) (N := some 66) (v := ?_) (a' := ?_) #[true, true, true, true, true, true, true, true, true, true, true, true, true, true, true, true, true, true, true, true, true, true, true, true, true, true, true, true, true, true, true, true, true, true, true, true, false, false, false, false, false, false, false, false, false, false, false, false] rfl rfl (by kernel_rfl) (fun _ _ _ h => h) (Or.inl ⟨by rfl, ?_⟩) ?_ ?_
  rotate_left
  · intro w'
    go_simp
    with_reducible rfl
  rotate_left
  · simp only [Act.put, List.setIfInBounds_toArray, List.set_cons_zero, List.set_cons_succ, i64_w, i32_w]
    rfl
  refine pure_ (i := 36) (N := some 67) (v := ?_) (a' := ?_) #[true, true, true, true, true, true, true, true, true, true, true, true, true, true, true, true, true, true, true, true, true, true, true, true, true, true, true, true, true, true, true, true, true, true, true, true, true, false, false, false, false, false, false, false, false, false, false, false] rfl rfl (by kernel_rfl) (fun _ _ _ h => h) (Or.inl ⟨by rfl, ?_⟩) ?_ ?_
  rotate_left
  · intro w'
    go_simp
    with_reducible rfl
  rotate_left
  · simp only [Act.put, List.setIfInBounds_toArray, List.set_cons_zero, List.set_cons_succ, i64_w, i32_w]
    rfl
  refine pure_ (i := 37) (N := some 68) (v := ?_) (a' := ?_) #[true, true, true, true, true, true, true, true, true, true, true, true, true, true, true, true, true, true, true, true, true, true, true, true, true, true, true, true, true, true, true, true, true, true, true, true, true, true, false, false, false, false, false, false, false, false, false, false] rfl rfl (by kernel_rfl) (fun _ _ _ h => h) (Or.inl ⟨by rfl, ?_⟩) ?_ ?_
  rotate_left
  · intro w'
    go_simp
    with_reducible rfl
  rotate_left
  · simp only [Act.put, List.setIfInBounds_toArray, List.set_cons_zero, List.set_cons_succ, i64_w, i32_w]
    rfl
  refine pure_ (i := 38) (N := some 69) (v := ?_) (a' := ?_) #[true, true, true, true, true, true, true, true, true, true, true, true, true, true, true, true, true, true, true, true, true, true, true, true, true, true, true, true, true, true, true, true, true, true, true, true, true, true, true, false, false, false, false, false, false, false, false, false] rfl rfl (by kernel_rfl) (fun _ _ _ h => h) (Or.inl ⟨by rfl, ?_⟩) ?_ ?_
  rotate_left
  · intro w'
    go_simp
    with_reducible rfl
  rotate_left
  · simp only [Act.put, List.setIfInBounds_toArray, List.set_cons_zero, List.set_cons_succ, i64_w, i32_w]
    rfl
  refine one_ (i := 39) (N := some 70) #[true, true, true, true, true, true, true, true, true, true, true, true, true, true, true, true, true, true, true, true, true, true, true, true, true, true, true, true, true, true, true, true, true, true, true, true, true, true, true, true, false, false, false, false, false, false, false, false] rfl rfl (by kernel_rfl) (by decide) (fun K hK => ?_)
  refine goes_ Tryd.func16 (by kernel_rfl) rfl #[.pointer (some ⟨b, 0, none⟩)] (by rfl) rfl rfl (by simp only [List.map_toArray, List.map_cons, List.map_nil]; rfl) ?_
  with_reducible refine (cancelB_none B13.out).mono ?_
  rintro e w14 ⟨rfl, rfl⟩
  refine ⟨_, rfl, ?_⟩
  refine hK.out _ _ ⟨(cell_kept (ST.out _ E12.out).2.2.2.1 O13.out n3), (cell_kept (ST.out _ E12.out).2.2.2.2.1 O13.out n3), (cell_kept (ST.out _ E12.out).2.2.2.2.2.1 O13.out n3), (cell_kept (ST.out _ E12.out).2.2.2.2.2.2.1 O13.out n3)⟩ (fun hHeld => ?_)
  clear hK K
  refine norm_ (a' := ?_) ?_ ?_
  rotate_left
  · show Act.put _ (some 70) _ = _
    simp only [Act.put, List.setIfInBounds_toArray, List.set_cons_zero, List.set_cons_succ, i64_w, i32_w]
    rfl
  refine pure_ (i := 40) (N := some 71) (v := ?_) (a' := ?_) #[true, true, true, true, true, true, true, true, true, true, true, true, true, true, true, true, true, true, true, true, true, true, true, true, true, true, true, true, true, true, true, true, true, true, true, true, true, true, true, true, true, false, false, false, false, false, false, false] rfl rfl (by kernel_rfl) (fun _ _ _ h => h) (Or.inl ⟨by rfl, ?_⟩) ?_ ?_
  rotate_left
  · intro w'
    go_simp
    with_reducible rfl
  rotate_left
  · simp only [Act.put, List.setIfInBounds_toArray, List.set_cons_zero, List.set_cons_succ, i64_w, i32_w]
    rfl
  refine pure_ (i := 41) (N := some 72) (v := ?_) (a' := ?_) #[true, true, true, true, true, true, true, true, true, true, true, true, true, true, true, true, true, true, true, true, true, true, true, true, true, true, true, true, true, true, true, true, true, true, true, true, true, true, true, true, true, true, false, false, false, false, false, false] rfl rfl (by kernel_rfl) (fun _ _ _ h => h) (Or.inl ⟨by rfl, ?_⟩) ?_ ?_
  rotate_left
  · intro w'
    go_simp
    with_reducible rfl
  rotate_left
  · simp only [Act.put, List.setIfInBounds_toArray, List.set_cons_zero, List.set_cons_succ, i64_w, i32_w]
    rfl
  refine pure_ (i := 42) (N := some 73) (v := ?_) (a' := ?_) #[true, true, true, true, true, true, true, true, true, true, true, true, true, true, true, true, true, true, true, true, true, true, true, true, true, true, true, true, true, true, true, true, true, true, true, true, true, true, true, true, true, true, true, false, false, false, false, false] rfl rfl (by kernel_rfl) (fun _ _ _ h => h) (Or.inl ⟨by rfl, ?_⟩) ?_ ?_
  rotate_left
  · intro w'
    go_simp
    with_reducible rfl
  rotate_left
  · simp only [Act.put, List.setIfInBounds_toArray, List.set_cons_zero, List.set_cons_succ, i64_w, i32_w]
    rfl
  refine pure_ (i := 43) (N := some 74) (v := ?_) (a' := ?_) #[true, true, true, true, true, true, true, true, true, true, true, true, true, true, true, true, true, true, true, true, true, true, true, true, true, true, true, true, true, true, true, true, true, true, true, true, true, true, true, true, true, true, true, true, false, false, false, false] rfl rfl (by kernel_rfl) (fun _ _ _ h => h) (Or.inl ⟨by rfl, ?_⟩) ?_ ?_
  rotate_left
  · intro w'
    go_simp
    with_reducible rfl
  rotate_left
  · simp only [Act.put, List.setIfInBounds_toArray, List.set_cons_zero, List.set_cons_succ, i64_w, i32_w]
    rfl
  refine one_ (i := 44) (N := some 75) #[true, true, true, true, true, true, true, true, true, true, true, true, true, true, true, true, true, true, true, true, true, true, true, true, true, true, true, true, true, true, true, true, true, true, true, true, true, true, true, true, true, true, true, true, true, false, false, false] rfl rfl (by kernel_rfl) (by decide) (fun K hK => ?_)
  refine goes_ Tryd.func14 (by kernel_rfl) rfl #[.pointer (some ⟨b, 0, none⟩)] (by rfl) rfl rfl (by simp only [List.map_toArray, List.map_cons, List.map_nil]; rfl) ?_
  with_reducible refine (sizeB B13.out).mono ?_
  rintro e w15 ⟨rfl, rfl⟩
  refine ⟨_, rfl, ?_⟩
  refine hK.out _ _ ⟨(cell_kept (ST.out _ E12.out).2.2.2.1 O13.out n3), (cell_kept (ST.out _ E12.out).2.2.2.2.1 O13.out n3), (cell_kept (ST.out _ E12.out).2.2.2.2.2.1 O13.out n3), (cell_kept (ST.out _ E12.out).2.2.2.2.2.2.1 O13.out n3)⟩ (fun hHeld => ?_)
  clear hK K
  refine norm_ (a' := ?_) ?_ ?_
  rotate_left
  · show Act.put _ (some 75) _ = _
    simp only [Act.put, List.setIfInBounds_toArray, List.set_cons_zero, List.set_cons_succ, i64_w, i32_w]
    rfl
  refine pure_ (i := 45) (N := some 76) (v := ?_) (a' := ?_) #[true, true, true, true, true, true, true, true, true, true, true, true, true, true, true, true, true, true, true, true, true, true, true, true, true, true, true, true, true, true, true, true, true, true, true, true, true, true, true, true, true, true, true, true, true, true, false, false] rfl rfl (by kernel_rfl) (fun _ _ _ h => h) (Or.inl ⟨by rfl, ?_⟩) ?_ ?_
  rotate_left
  · intro w'
    go_simp
    with_reducible rfl
  rotate_left
  · simp only [Act.put, List.setIfInBounds_toArray, List.set_cons_zero, List.set_cons_succ, i64_w, i32_w]
    rfl
  refine pure_ (i := 46) (N := some 77) (v := ?_) (a' := ?_) #[true, true, true, true, true, true, true, true, true, true, true, true, true, true, true, true, true, true, true, true, true, true, true, true, true, true, true, true, true, true, true, true, true, true, true, true, true, true, true, true, true, true, true, true, true, true, true, false] rfl rfl (by kernel_rfl) (fun _ _ _ h => h) (Or.inl ⟨by rfl, ?_⟩) ?_ ?_
  rotate_left
  · intro w'
    go_simp
    with_reducible rfl
  rotate_left
  · simp only [Act.put, List.setIfInBounds_toArray, List.set_cons_zero, List.set_cons_succ, i64_w, i32_w]
    rfl
  refine pure_ (i := 47) (N := some 0) (v := ?_) (a' := ?_) #[true, true, true, true, true, true, true, true, true, true, true, true, true, true, true, true, true, true, true, true, true, true, true, true, true, true, true, true, true, true, true, true, true, true, true, true, true, true, true, true, true, true, true, true, true, true, true, true] rfl rfl (by kernel_rfl) (fun _ _ _ h => h) (Or.inl ⟨by rfl, ?_⟩) ?_ ?_
  rotate_left
  · intro w'
    go_simp
    with_reducible rfl
  rotate_left
  · simp only [Act.put, List.setIfInBounds_toArray, List.set_cons_zero, List.set_cons_succ, i64_w, i32_w]
    rfl
  refine done_ (by kernel_rfl) ?_
  go_wp2_with fail
  go_ret
  refine ⟨by first | rfl | decide +kernel, ?_⟩
  have hbm : ∀ k, BM b m k → w.heap.size ≤ k := fun k h => by rcases h with h | h <;> omega
  have nn : ∀ B : Nat, ∀ k, (fun _ : Nat => False) k → B ≤ k := fun _ k h => h.elim
  have r1 : Only (fun k => w.heap.size ≤ k) w w1 := (Only.of_below (S := fun _ => False) E1.out).mono (nn _)
  have r2 := r1.trans (O2.out.mono hbm)
  have r3 := r2.trans ((Only.of_below (S := fun _ => False) E3.out).mono (nn _))
  have r4 := r3.trans ((Only.of_below (S := fun _ => False) E4.out).mono (nn _))
  have r5 := r4.trans (O5.out.mono hbm)
  have r6 := r5.trans ((Only.of_below (S := fun _ => False) E6.out).mono (nn _))
  have r7 := r6.trans (O7.out.mono hbm)
  have r8 := r7.alloc (.cells #[.int .i64 1, .int .i64 7, .int .i64 7, .int .i64 7] 32)
  have r9 := r8.trans (O9.out.mono hbm)
  have r12 := r9.trans ((Only.of_below (S := fun _ => False) E12.out).mono (nn _))
  exact (r12.trans (O13.out.mono hbm)).below (Nat.le_refl _) (fun _ h => h)

end Go.Proofs.YtlnekfodkeifkaaDoor.W

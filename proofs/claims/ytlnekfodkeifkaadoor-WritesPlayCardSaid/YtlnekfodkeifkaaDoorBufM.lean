/- Each method of the program's buffer, told by the queue that it holds: what it answers and the buffer behind it. Conditions: the buffer's numbers are of everyday size. -/
import Derived.Test.YtlnekfodkeifkaaDoorTake
import Derived.Test.YtlnekfodkeifkaaDoorErrAs
import Derived.Test.YtlnekfodkeifkaaDoorOCx2
import Derived.Test.YtlnekfodkeifkaaDoorOCx6
namespace Go.Proofs.YtlnekfodkeifkaaDoor.W
open Go.RowKit Go.Maps Go.Proofs.YtlnekfodkeifkaaDoorW.PrintWords Go.Proofs.YtlnekfodkeifkaaDoor.OC

/-! ### the size -/
def upV (n : Int) : Nat → Int → Int
  | 0, x => x
  | d + 1, x => if x < n then upV n d (x * 2) else x
def ceilV (n : Int) : Int := upV n 12 1
theorem ceilV_is (n : Int) : 1 ≤ ceilV n ∧ ceilV n ≤ 4096 := by
  unfold ceilV
  simp only [upV]
  repeat' split
  all_goals omega
theorem ceil_up (n : Int) (d : Nat) : ∀ (x : Int) (k : Nat), 1 ≤ x → x * 2 ^ d = 4096 → d + 1 ≤ k → mix_Ceil.l0 k n 4096 x = some (upV n d x) := by
  induction d with
  | zero =>
    intro x k h0 h1 hk
    obtain ⟨k, rfl⟩ : ∃ m, k = m + 1 := ⟨k - 1, by omega⟩
    simp only [Int.pow_zero, Int.mul_one] at h1
    subst h1
    rw [mix_Ceil.l0]
    rw [if_neg (show ¬ (4096 : Int) < 4096 by omega)]
    simp [upV]
  | succ d ih =>
    intro x k h0 h1 hk
    obtain ⟨k, rfl⟩ : ∃ m, k = m + 1 := ⟨k - 1, by omega⟩
    have h2 : x * 2 * 2 ^ d = 4096 := by rw [Int.pow_succ, Int.mul_comm (2 ^ d) 2, ← Int.mul_assoc] at h1; exact h1
    have h3 : (1 : Int) ≤ 2 ^ d := by
      have : (0 : Int) < 2 ^ d := Int.pow_pos (by omega)
      omega
    have h4 : x * 2 ≤ 4096 := by
      have : x * 2 * 1 ≤ x * 2 * 2 ^ d := Int.mul_le_mul_of_nonneg_left h3 (by omega)
      omega
    rw [mix_Ceil.l0, upV]
    by_cases hn : x < n
    · rw [if_pos hn, if_pos hn, if_pos (by omega), show wrap64 (x * 2) = x * 2 from by unfold wrap64; omega]
      exact ih (x * 2) k (by omega) h2 (by omega)
    · rw [if_neg hn, if_neg hn]
theorem power1 : mix_power.f 1 = some true := by kernel_rfl
theorem power4096 : mix_power.f 4096 = some true := by kernel_rfl
theorem ceil_is (n : Int) : mix_Ceil.f 20 n 1 4096 = some (ceilV n) := by
  unfold mix_Ceil.f
  rw [power1]; simp only [Option.bind_some, if_true]
  rw [power4096]; simp only [Option.bind_some, if_true]
  rw [decide_eq_false (by omega)]
  rw [mix_Ceil.j0]
  rw [if_neg (by decide)]
  exact ceil_up n 12 1 19 (by omega) (by decide) (by omega)

theorem heapNew (w : World) (o : Obj) : (w.alloc o).heap[w.heap.size]? = some o := by
  show (w.heap.push o)[w.heap.size]? = _
  exact Array.getElem?_push_size
theorem only_drawn {S : Nat → Prop} {w : World} (n : Nat) : Only S w (w.drewN n) := (Only.refl S w).drewN n

theorem new_any (n : Int) (w : World) : Calls Tryd.prog 8 #[.int .i64 n] w fun e w' => ∃ b m, e = .returned (.pointer (some ⟨b, 0, none⟩)) ∧ Buf w' b m (ceilV n) [] 0 0 ∧ w.heap.size ≤ b ∧ w.heap.size ≤ m ∧ Below w.heap.size w w' := by
  have hmm := @run_makeMap Tryd.prog
  have hc := ceil_is n
  have HC := Lib.hid hc
  clear hc
  go_enter Tryd.func8, Tryd.ntmps8
  go_wp2_with (go_at_call 27; refine (mix_Ceil.calls 20 n 1 4096 (ceilV n) _ HC.out).mono ?_; rintro e w' ⟨rfl, ⟨nd, rfl⟩⟩)
  go_ret
  refine ⟨w.heap.size + 1, w.heap.size, rfl, ⟨by omega, ?_, .map [], ?_, isQ_nil 0⟩, by omega, by omega, ?_⟩
  · have e : ((w.drewN nd).alloc (Obj.map #[] 0)).heap.size = w.heap.size + 1 := by simp [World.drewN]
    have := heapNew ((w.drewN nd).alloc (Obj.map #[] 0)) (.cells #[.int .i64 (ceilV n), .map (some w.heap.size), .int .i64 0, .int .i64 0, .int .i64 0] 54)
    rw [e] at this
    exact this
  · exact World.ownsMap.alloc (World.ownsMap_made (w.drewN nd) _ _ _) _
  · exact ((below_drewN (Below.refl _ _) nd).alloc (by simp [World.drewN]) _).alloc (by simp [World.drewN]) _

/-- The blocks of a buffer. -/
def BM (b m : Nat) : Nat → Prop := fun k => k = b ∨ k = m
/-- A buffer's numbers are of everyday size. -/
structure Fine (N : Int) (L : List Ev) (F R : Int) : Prop where
  n : 1 ≤ N ∧ N ≤ 4096
  r : 0 ≤ R
  sum : (L.length : Int) + R ≤ N
  f : 0 ≤ F ∧ F ≤ 100000
theorem wt_fine {N : Int} {L : List Ev} {F R : Int} (h : Fine N L F R) : 0 ≤ wt L ∧ wt L ≤ 10000000000000 := by
  have := wt_is L
  have h1 := h.sum; have h2 := h.n; have h3 := h.r
  omega

theorem lenB {b m : Nat} {N : Int} {L : List Ev} {F R : Int} {w : World} (h : Buf w b m N L F R) :
    Calls Tryd.prog 13 #[.pointer (some ⟨b, 0, none⟩)] w fun e w' => e = .returned (.int .i64 (L.length : Int)) ∧ w = w' := by
  obtain ⟨D, hD, hq⟩ := h.owns
  refine (len_any b m _ D w (cells5 h.block).2.1 hD).mono fun e w' ⟨h1, h2⟩ => ⟨?_, h2⟩
  rw [h1, hq.2.2]
theorem weightB {b m : Nat} {N : Int} {L : List Ev} {F R : Int} {w : World} (h : Buf w b m N L F R) :
    Calls Tryd.prog 12 #[.pointer (some ⟨b, 0, none⟩)] w fun e w' => e = .returned (.int .i64 (wt L)) ∧ w = w' :=
  weight_any b _ w (cells5 h.block).2.2.2.2
theorem sizeB {b m : Nat} {N : Int} {L : List Ev} {F R : Int} {w : World} (h : Buf w b m N L F R) :
    Calls Tryd.prog 14 #[.pointer (some ⟨b, 0, none⟩)] w fun e w' => e = .returned (.int .i64 N) ∧ w = w' :=
  size_any b _ w (cells5 h.block).1
theorem reservedB {b m : Nat} {N : Int} {L : List Ev} {F R : Int} {w : World} (h : Buf w b m N L F R) :
    Calls Tryd.prog 17 #[.pointer (some ⟨b, 0, none⟩)] w fun e w' => e = .returned (.int .i64 R) ∧ w = w' :=
  reserved_any b _ w (cells5 h.block).2.2.2.1
theorem reserveB_full {b m : Nat} {N : Int} {L : List Ev} {F R : Int} {w : World} (h : Buf w b m N L F R) (hf : Fine N L F R) (hN : (L.length : Int) + R = N) :
    Calls Tryd.prog 9 #[.pointer (some ⟨b, 0, none⟩)] w fun e w' => e = .returned (.iface 56 (.pointer (some ⟨w.heap.size, 0, none⟩))) ∧ w'.heap[w.heap.size]? = some (.cells #[.int .i64 2, .int .i64 (L.length : Int), .int .i64 R] 58 (0, 0)) ∧ Below w.heap.size w w' := by
  obtain ⟨D, hD, hq⟩ := h.owns
  obtain ⟨c0, c1, c2, c3, c4⟩ := cells5 h.block
  have h1 := hf.n; have h2 := hf.r
  refine (reserve_full b m _ D N R w c0 c1 c3 hD h2 (by rw [hq.2.2]; omega) (by rw [hq.2.2]; exact beq_iff_eq.2 hN)).mono ?_
  rintro e w' ⟨rfl, nq, rfl⟩
  refine ⟨rfl, ?_, below_drewN ((Below.refl _ _).alloc (Nat.le_refl _) _) nq⟩
  show (w.alloc _).heap[w.heap.size]? = _
  rw [heapNew, hq.2.2]
theorem reserveB_ok {b m : Nat} {N : Int} {L : List Ev} {F R : Int} {w : World} (h : Buf w b m N L F R) (hf : Fine N L F R) (hN : (L.length : Int) + R ≠ N) :
    Calls Tryd.prog 9 #[.pointer (some ⟨b, 0, none⟩)] w fun e w' => e = .returned .nilIface ∧ Buf w' b m N L F (R + 1) ∧ Only (BM b m) w w' := by
  obtain ⟨D, hD, hq⟩ := h.owns
  obtain ⟨c0, c1, c2, c3, c4⟩ := cells5 h.block
  have h1 := hf.n; have h2 := hf.r; have h3 := hf.sum
  refine (reserve_ok b m _ D N R w c0 c1 c3 (free5 h.block 3) hD h2 (by rw [hq.2.2]; omega) (by rw [hq.2.2]; exact beq_eq_false_iff_ne.2 hN)).mono ?_
  rintro e w' ⟨rfl, nq, rfl⟩
  refine ⟨rfl, ⟨h.ne, ?_, D, ?_, hq⟩, ((Only.refl _ _).setCell (p := ⟨b, 3, none⟩) (Or.inl rfl) _).drewN nq⟩
  · exact store5 h.block 3 _
  · exact ownsMap_setCell hD (fun e => h.ne e.symm) _
theorem cancelB_none {b m : Nat} {N : Int} {L : List Ev} {F : Int} {w : World} (h : Buf w b m N L F 0) :
    Calls Tryd.prog 16 #[.pointer (some ⟨b, 0, none⟩)] w fun e w' => e = .returned (.int .i64 3) ∧ w = w' :=
  cancel_none b w (cells5 h.block).2.2.2.1
theorem cancelB_ok {b m : Nat} {N : Int} {L : List Ev} {F R : Int} {w : World} (h : Buf w b m N L F R) (hf : Fine N L F R) (hR : 0 < R) :
    Calls Tryd.prog 16 #[.pointer (some ⟨b, 0, none⟩)] w fun e w' => e = .returned (.int .i64 0) ∧ Buf w' b m N L F (R - 1) ∧ Only (BM b m) w w' := by
  obtain ⟨D, hD, hq⟩ := h.owns
  have h1 := hf.n; have h3 := hf.sum
  refine (cancel_some b R w hR (by omega) (cells5 h.block).2.2.2.1 (free5 h.block 3)).mono ?_
  rintro e w' ⟨rfl, rfl⟩
  exact ⟨rfl, ⟨h.ne, store5 h.block 3 _, D, ownsMap_setCell hD (fun e => h.ne e.symm) _, hq⟩, (Only.refl _ _).setCell (p := ⟨b, 3, none⟩) (Or.inl rfl) _⟩
theorem commitB_none {b m : Nat} {N : Int} {L : List Ev} {F : Int} {w : World} (h : Buf w b m N L F 0) (e : Ev) :
    Calls Tryd.prog 10 #[.pointer (some ⟨b, 0, none⟩), evV e] w fun r w' => r = .returned (.int .i64 3) ∧ Below w.heap.size w w' := by
  refine (commit_none b e w (cells5 h.block).2.2.2.1).mono ?_
  rintro r w' ⟨rfl, rfl⟩
  exact ⟨rfl, (Below.refl _ _).alloc (Nat.le_refl _) _⟩
theorem block_alloc {w : World} {b : Nat} {o o' : Obj} (h : w.heap[b]? = some o) : (w.alloc o').heap[b]? = some o := by rw [RowKit.Below.heap_alloc w o' b (lt_block h)]; exact h
theorem commitB_ok {b m : Nat} {N : Int} {L : List Ev} {F R : Int} {w : World} (h : Buf w b m N L F R) (hf : Fine N L F R) (hR : 0 < R) (e : Ev) :
    Calls Tryd.prog 10 #[.pointer (some ⟨b, 0, none⟩), evV e] w fun r w' => r = .returned (.int .i64 0) ∧ Buf w' b m N (L ++ [e]) F (R - 1) ∧ Only (BM b m) w w' := by
  obtain ⟨D, hD, hq⟩ := h.owns
  obtain ⟨c0, c1, c2, c3, c4⟩ := cells5 h.block
  have h1 := hf.n; have h2 := hf.r; have h3 := hf.sum; have h4 := hf.f; have h5 := wt_fine hf
  refine (commit_ok b m _ D F R (wt L) e w h.ne h.lt.1 c1 c2 c3 c4 (free5 h.block) hD hR (by omega) h4.1 (by rw [hq.2.2]; omega) (by omega) h5.1 (by omega)).mono ?_
  rintro r w' ⟨rfl, w1, ho1, hg, nq, rfl⟩
  refine ⟨rfl, ⟨h.ne, ?_, D.put (.int .i64 (F + (L.length : Int))) (evD e), ?_, isQ_push hq (hD.tidy mLaw) e⟩, ?_⟩
  · have a1 : ((w.alloc (EvO e)).setCell ⟨b, 3, none⟩ (.int .i64 (R - 1))).heap[b]? = _ := store5 (block_alloc h.block) 3 _
    have a2 : w1.heap[b]? = _ := (hg.block b (lt_block a1) (fun e => h.ne (Option.some.inj e))).trans a1
    have a3 := block_alloc (o' := EvO e) (store5 a2 4 (.int .i64 (wt L + hv e.weight)))
    rw [wt_snoc]
    exact a3
  · rw [hq.2.2] at ho1
    have a4 : (((w1.setCell ⟨b, 4, none⟩ (.int .i64 (wt L + hv e.weight))).alloc (EvO e))).ownsMap Tryd.prog 3 evElem m (L.length + 1) _ := (ownsMap_setCell ho1 (fun e => h.ne e.symm) _).alloc _
    have a5 : (L ++ [e]).length = L.length + 1 := by simp
    rw [a5]
    exact a4
  · have b1 : Only (BM b m) w ((w.alloc (EvO e)).setCell ⟨b, 3, none⟩ (.int .i64 (R - 1))) := ((Only.refl _ _).alloc _).setCell (p := ⟨b, 3, none⟩) (Or.inl rfl) _
    have b2 : Only (BM b m) w w1 := b1.grown hg (Or.inr rfl)
    exact ((b2.setCell (p := ⟨b, 4, none⟩) (Or.inl rfl) _).alloc _).drewN nq
theorem takeB_none {b m : Nat} {N : Int} {F R : Int} {w : World} (h : Buf w b m N [] F R) (hf : Fine N [] F R) :
    Calls Tryd.prog 11 #[.pointer (some ⟨b, 0, none⟩)] w fun r w' => r = .returned (.tuple #[evV evZero, .bool false]) ∧ Below w.heap.size w w' := by
  obtain ⟨D, hD, hq⟩ := h.owns
  obtain ⟨c0, c1, c2, c3, c4⟩ := cells5 h.block
  have h4 := hf.f
  exact take_none b m _ D F w h.lt.1 c1 c2 hD h4.1 (by omega) (isQ_none hq)
theorem takeB_some {b m : Nat} {N : Int} {e : Ev} {L : List Ev} {F R : Int} {w : World} (h : Buf w b m N (e :: L) F R) (hf : Fine N (e :: L) F R) :
    Calls Tryd.prog 11 #[.pointer (some ⟨b, 0, none⟩)] w fun r w' => r = .returned (.tuple #[evV e, .bool true]) ∧ Buf w' b m N L (F + 1) R ∧ Only (BM b m) w w' := by
  obtain ⟨D, hD, hq⟩ := h.owns
  obtain ⟨c0, c1, c2, c3, c4⟩ := cells5 h.block
  have h4 := hf.f; have h5 := wt_fine hf
  have hlt := h.lt
  refine (take_some b m _ D F (wt (e :: L)) e w h.ne h.lt.1 c1 c2 c4 (free5 h.block) hD h4.1 (by omega) h5.1 (by omega) (isQ_head hq).1 (isQ_head hq).2).mono ?_
  rintro r w' ⟨rfl, w4, ho4, hg, hon⟩
  have hev : wt (e :: L) - hv e.weight = wt L := by simp only [wt]; omega
  have a0 : ((w.alloc (EvO evZero)).alloc (EvO e)).heap[b]? = _ := block_alloc (block_alloc h.block)
  have a1 : w4.heap[b]? = _ := (hg.block b (lt_block a0) (fun e => h.ne (Option.some.inj e))).trans a0
  have a2 := store5 (store5 a1 2 (.int .i64 (F + 1))) 4 (.int .i64 (wt (e :: L) - hv e.weight))
  have o2 : ((w4.setCell ⟨b, 2, none⟩ (.int .i64 (F + 1))).setCell ⟨b, 4, none⟩ (.int .i64 (wt (e :: L) - hv e.weight))).ownsMap Tryd.prog 3 evElem m _ (D.del (.int .i64 F)) := ownsMap_setCell (ownsMap_setCell ho4 (fun e => h.ne e.symm) _) (fun e => h.ne e.symm) _
  have hq' := isQ_pop hq (hD.tidy mLaw)
  have o3 := ownsMap_tight o2
  rw [hq'.2.2] at o3
  have hb0 : Buf ((w4.setCell ⟨b, 2, none⟩ (.int .i64 (F + 1))).setCell ⟨b, 4, none⟩ (.int .i64 (wt (e :: L) - hv e.weight))) b m N L (F + 1) R := by
    refine ⟨h.ne, ?_, D.del (.int .i64 F), o3, hq'⟩
    rw [a2, ← hev]; rfl
  have n1 : ¬ (w.heap.size ≤ b) := by omega
  have n2 : ¬ (w.heap.size ≤ m) := by omega
  refine ⟨rfl, hb0.kept hon n1 n2, ?_⟩
  have b1 : Only (BM b m) w ((w.alloc (EvO evZero)).alloc (EvO e)) := ((Only.refl _ _).alloc _).alloc _
  have b2 : Only (BM b m) w w4 := b1.grown hg (Or.inr rfl)
  have b3 := (b2.setCell (p := ⟨b, 2, none⟩) (Or.inl rfl) (.int .i64 (F + 1))).setCell (p := ⟨b, 4, none⟩) (Or.inl rfl) (.int .i64 (wt (e :: L) - hv e.weight))
  exact ⟨hon.os.trans b3.os, hon.tape.trans b3.tape, hon.output.trans b3.output, Nat.le_trans b3.size hon.size, fun k hk hn => (hon.block k (Nat.lt_of_lt_of_le hk b3.size) (show ¬ w.heap.size ≤ k by omega)).trans (b3.block k hk hn)⟩
end Go.Proofs.YtlnekfodkeifkaaDoor.W

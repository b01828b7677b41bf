/- What api.Wrap, weigh.Admit, weigh.Reason and the reference's Admit answer, at each kind of input. Conditions: errors.errorType holds the type error where errors.As is met; a fault's cells are known. -/
import Derived.Test.YtahbigcjlindeaaDoorErrAsF
import Derived.WalkSmall
import Derived.OneCell
import Derived.Deep.Draws
import Derived.Deep.QuietTactic
import Derived.BigQuiet
import Derived.StillTailTactics
import Derived.Deep.RegionWith
import Derived.IntWalk
import Derived.Lib.Hide
import Derived.Outline
namespace Go.Proofs.YtahbigcjlindeaaDoor.W
open Go.RowKit
attribute [local go_sem] World.setCell_drew
set_option linter.unusedSimpArgs false
set_option linter.unusedVariables false

theorem heapNew (w : World) (o : Obj) : (w.alloc o).heap[w.heap.size]? = some o := by
  show (w.heap.push o)[w.heap.size]? = _
  exact Array.getElem?_push_size
theorem lt_block {w : World} {b : Nat} {o : Obj} (h : w.heap[b]? = some o) : b < w.heap.size := by
  rcases Nat.lt_or_ge b w.heap.size with h' | h'
  · exact h'
  · simp [Array.getElem?_eq_none h'] at h
theorem blk_kept {w w' : World} {k : Nat} {o : Obj} (h : w.heap[k]? = some o) (hb : Below w.heap.size w w') : w'.heap[k]? = some o := (hb.block k (lt_block h)).trans h
theorem errType_kept {w w' : World} (h : Err.ErrType w) (hb : Below w.heap.size w w') : Err.ErrType w' := by
  have hlt : 0 < w.heap.size := by
    rcases Nat.eq_zero_or_pos w.heap.size with h0 | h'
    · simp [Err.ErrType, World.cell?, h0] at h
    · exact h'
  unfold Err.ErrType at h ⊢
  rw [World.cell?_of_block (w := w) (hb.block 0 hlt)]; exact h
/-- Block b is a fault: its number, its key, how much. -/
def FaultAt (w : World) (b : Nat) (n k m : Int) : Prop := w.heap[b]? = some (.cells #[.int .i64 n, .int .i64 k, .int .i64 m] 52 (0, 0))
theorem FaultAt.kept {w w' : World} {b : Nat} {n k m : Int} (h : FaultAt w b n k m) (hb : Below w.heap.size w w') : FaultAt w' b n k m := blk_kept h hb
theorem FaultAt.cells {w : World} {b : Nat} {n k m : Int} (h : FaultAt w b n k m) : w.cell? ⟨b, 0, none⟩ = some (.int .i64 n) ∧ w.cell? ⟨b, 1, none⟩ = some (.int .i64 k) ∧ w.cell? ⟨b, 2, none⟩ = some (.int .i64 m) := by
  unfold FaultAt at h
  refine ⟨?_, ?_, ?_⟩ <;> simp [World.cell?, h]

theorem wrap_any (n k m : Int) (w : World) (hn : n ≠ 0) :
    Calls Tryd.prog 19 #[.int .i64 n, .int .i64 k, .int .i64 m] w fun e w' => e = .returned (.iface 48 (.pointer (some ⟨w.heap.size, 0, none⟩))) ∧ w.alloc (.cells #[.int .i64 n, .int .i64 k, .int .i64 m] 52) = w' := by
  have hb : (n == 0) = false := beq_eq_false_iff_ne.2 hn
  go_enter Tryd.func19, Tryd.ntmps19
  go_wp2
  go_ret
  exact ⟨rfl, rfl⟩

/-- The number of Admit's answer: none, an argument that may not be, too heavy. -/
def adm (w c : Int) : Int := if w < 0 ∨ c < 0 ∨ 4611686018427387903 < c then 1 else if c < w ∨ 2147483648 < w then 4 else 0

theorem admit_ok (k x c : Int) (w : World) (h0 : 0 ≤ x) (h1 : 0 ≤ c) (h2 : c ≤ 4611686018427387903) (h3 : x ≤ c) (h4 : x ≤ 2147483648) :
    Calls Tryd.prog 9 #[.int .i64 k, .int .i64 x, .int .i64 c] w fun e w' => e = .returned .nilIface ∧ w = w' := by
  go_enter Tryd.func9, Tryd.ntmps9
  go_wp2
  go_ret
  exact ⟨rfl, rfl⟩
theorem admit_arg (k x c : Int) (w : World) (h : x < 0 ∨ c < 0 ∨ 4611686018427387903 < c) :
    Calls Tryd.prog 9 #[.int .i64 k, .int .i64 x, .int .i64 c] w fun e w' => e = .returned (.iface 48 (.pointer (some ⟨w.heap.size, 0, none⟩))) ∧ w.alloc (.cells #[.int .i64 1, .int .i64 k, .int .i64 x] 52) = w' := by
  by_cases h0 : x < 0
  · clear h
    go_enter Tryd.func9, Tryd.ntmps9
    go_wp2_with (go_at_call 19; refine (wrap_any _ _ _ _ (by decide)).mono ?_; rintro e w' ⟨rfl, rfl⟩)
    go_ret
    exact ⟨rfl, rfl⟩
  · by_cases h1 : c < 0
    · clear h
      go_enter Tryd.func9, Tryd.ntmps9
      go_wp2_with (go_at_call 19; refine (wrap_any _ _ _ _ (by decide)).mono ?_; rintro e w' ⟨rfl, rfl⟩)
      go_ret
      exact ⟨rfl, rfl⟩
    · have h2 : 4611686018427387903 < c := by omega
      clear h
      go_enter Tryd.func9, Tryd.ntmps9
      go_wp2_with (go_at_call 19; refine (wrap_any _ _ _ _ (by decide)).mono ?_; rintro e w' ⟨rfl, rfl⟩)
      go_ret
      exact ⟨rfl, rfl⟩
theorem admit_heavy (k x c : Int) (w : World) (h0 : 0 ≤ x) (h1 : 0 ≤ c) (h2 : c ≤ 4611686018427387903) (h : c < x ∨ 2147483648 < x) :
    Calls Tryd.prog 9 #[.int .i64 k, .int .i64 x, .int .i64 c] w fun e w' => e = .returned (.iface 48 (.pointer (some ⟨w.heap.size, 0, none⟩))) ∧ w.alloc (.cells #[.int .i64 4, .int .i64 k, .int .i64 x] 52) = w' := by
  by_cases h3 : c < x
  · clear h
    go_enter Tryd.func9, Tryd.ntmps9
    go_wp2_with (go_at_call 19; refine (wrap_any _ _ _ _ (by decide)).mono ?_; rintro e w' ⟨rfl, rfl⟩)
    go_ret
    exact ⟨rfl, rfl⟩
  · have h4 : 2147483648 < x := by omega
    clear h
    go_enter Tryd.func9, Tryd.ntmps9
    go_wp2_with (go_at_call 19; refine (wrap_any _ _ _ _ (by decide)).mono ?_; rintro e w' ⟨rfl, rfl⟩)
    go_ret
    exact ⟨rfl, rfl⟩
theorem adm_ok {x c : Int} (h : adm x c = 0) : 0 ≤ x ∧ 0 ≤ c ∧ c ≤ 4611686018427387903 ∧ x ≤ c ∧ x ≤ 2147483648 := by
  unfold adm at h
  split at h
  · omega
  · split at h
    · omega
    · omega
/-- Admit, where it says no: a new fault of that number. -/
theorem admit_no (k x c : Int) (w : World) (h : adm x c ≠ 0) :
    Calls Tryd.prog 9 #[.int .i64 k, .int .i64 x, .int .i64 c] w fun e w' => e = .returned (.iface 48 (.pointer (some ⟨w.heap.size, 0, none⟩))) ∧ w.alloc (.cells #[.int .i64 (adm x c), .int .i64 k, .int .i64 x] 52) = w' := by
  unfold adm at h ⊢
  by_cases h1 : x < 0 ∨ c < 0 ∨ 4611686018427387903 < c
  · rw [if_pos h1]; exact admit_arg k x c w h1
  · rw [if_neg h1] at h ⊢
    by_cases h2 : c < x ∨ 2147483648 < x
    · rw [if_pos h2]; exact admit_heavy k x c w (by omega) (by omega) (by omega) h2
    · rw [if_neg h2] at h; exact absurd rfl h
theorem admit_yes (k x c : Int) (w : World) (h : adm x c = 0) : Calls Tryd.prog 9 #[.int .i64 k, .int .i64 x, .int .i64 c] w fun e w' => e = .returned .nilIface ∧ w = w' := by
  obtain ⟨h0, h1, h2, h3, h4⟩ := adm_ok h
  exact admit_ok k x c w h0 h1 h2 h3 h4
/-- The reference's Admit. -/
theorem radmit_any (x c : Int) (w : World) : Calls Tryd.prog 12 #[.int .i64 x, .int .i64 c] w fun e w' => e = .returned (.int .i64 (adm x c)) ∧ w = w' := by
  by_cases h0 : x < 0
  · have e : adm x c = 1 := by unfold adm; rw [if_pos (by omega)]
    rw [e]
    clear e
    go_enter Tryd.func12, Tryd.ntmps12
    go_wp2
    go_ret
    exact ⟨rfl, rfl⟩
  by_cases h1 : c < 0
  · have e : adm x c = 1 := by unfold adm; rw [if_pos (by omega)]
    rw [e]
    clear e
    go_enter Tryd.func12, Tryd.ntmps12
    go_wp2
    go_ret
    exact ⟨rfl, rfl⟩
  by_cases h2 : 4611686018427387903 < c
  · have e : adm x c = 1 := by unfold adm; rw [if_pos (by omega)]
    rw [e]
    clear e
    go_enter Tryd.func12, Tryd.ntmps12
    go_wp2
    go_ret
    exact ⟨rfl, rfl⟩
  by_cases h3 : c < x
  · have e : adm x c = 4 := by unfold adm; rw [if_neg (by omega), if_pos (by omega)]
    rw [e]
    clear e
    go_enter Tryd.func12, Tryd.ntmps12
    go_wp2
    go_ret
    exact ⟨rfl, rfl⟩
  by_cases h4 : 2147483648 < x
  · have e : adm x c = 4 := by unfold adm; rw [if_neg (by omega), if_pos (by omega)]
    rw [e]
    clear e
    go_enter Tryd.func12, Tryd.ntmps12
    go_wp2
    go_ret
    exact ⟨rfl, rfl⟩
  · have e : adm x c = 0 := by unfold adm; rw [if_neg (by omega), if_neg (by omega)]
    rw [e]
    clear e
    go_enter Tryd.func12, Tryd.ntmps12
    go_wp2
    go_ret
    exact ⟨rfl, rfl⟩

/-! ### Reason -/
theorem reason_nil (w : World) : Calls Tryd.prog 13 #[.nilIface] w fun e w' => e = .returned (.tuple #[.int .i64 0, .int .i64 0, .bool false]) ∧ Below w.heap.size w w' := by
  go_enter Tryd.func13, Tryd.ntmps13
  go_wp2_with (go_at_call 21; refine (Err.is_nil 4 _).mono ?_; rintro e w' ⟨rfl, rfl⟩)
  go_ret3
  exact ⟨rfl, (Below.refl _ _).alloc (Nat.le_refl _) _⟩
theorem reason_errno (w : World) (hg : Err.ErrType w) : Calls Tryd.prog 13 #[.iface 30 (.int .i64 4)] w fun e w' => e = .returned (.tuple #[.int .i64 0, .int .i64 0, .bool false]) ∧ Below w.heap.size w w' := by
  have HG := Lib.hid hg
  clear hg
  go_enter Tryd.func13, Tryd.ntmps13
  go_wp2_with (first | (go_at_call 21; refine (Err.is_errno 4 _).mono ?_; rintro e w' ⟨rfl, rfl⟩) | (go_at_call 20; refine (Err.asF_errno 4 _ _ (errType_kept HG.out ((Below.refl _ _).alloc (Nat.le_refl _) _))).mono ?_; rintro e w' ⟨rfl, hbel⟩))
  go_ret3
  exact ⟨rfl, ((Below.refl _ _).alloc (Nat.le_refl _) _).trans (hbel.mono (by simp))⟩
theorem reason_other (b : Nat) (n k m : Int) (w : World) (hf : FaultAt w b n k m) (hn : n ≠ 4) : Calls Tryd.prog 13 #[.iface 48 (.pointer (some ⟨b, 0, none⟩))] w fun e w' => e = .returned (.tuple #[.int .i64 0, .int .i64 0, .bool false]) ∧ Below w.heap.size w w' := by
  have hb : (n == 4) = false := beq_eq_false_iff_ne.2 hn
  have hc : (w.alloc (.cells #[.pointer none] 48)).cell? ⟨b, 0, none⟩ = some (.int .i64 n) := (hf.kept ((Below.refl _ _).alloc (Nat.le_refl _) _)).cells.1
  have his := Err.is_fault ⟨b, 0, none⟩ n 4 _ hc
  rw [hb] at his
  clear hb hn
  go_enter Tryd.func13, Tryd.ntmps13
  go_wp2_with (go_at_call 21; refine his.mono ?_; rintro e w' ⟨rfl, rfl⟩)
  go_ret3
  exact ⟨rfl, (Below.refl _ _).alloc (Nat.le_refl _) _⟩
theorem below_drewN {B : Nat} {w w' : World} (h : Below B w w') (n : Nat) : Below B w (w'.drewN n) := h.trans ⟨rfl, rfl, rfl, Nat.le_refl _, fun _ _ => rfl⟩
theorem asF_below (f t : Addr) (old : Value) (w : World) (B : Nat) (hB : B ≤ t.block) (hg : Err.ErrType w) (ht0 : w.cell? t = some old) (hf0 : w.frozen? t = false) :
    Calls Tryd.prog 20 #[.iface 48 (.pointer (some f)), .iface 50 (.pointer (some t))] w fun ev w' => ev = .returned (.bool true) ∧ w'.cell? t = some (.pointer (some f)) ∧ Below B w w' := by
  have htl : t.block < w.heap.size := World.block_lt_of_cell? w _ ht0
  refine (Err.asF_fault f t old w hg ht0 hf0).mono fun e w' ⟨h1, h2⟩ => ⟨h1, ?_, ?_⟩
  · rw [h2]
    refine World.cell?_setCell_same (u := old) _ _ _ ?_
    rw [World.cell?_alloc_lt _ _ t (by simp; omega), World.cell?_alloc_lt _ _ t (by simp; omega), World.cell?_alloc_lt _ _ t (by simp; omega), World.cell?_alloc_lt _ _ t htl]; exact ht0
  · rw [h2]
    exact ((((((Below.refl _ _).alloc (by omega) _).alloc (by simp; omega) _).alloc (by simp; omega) _).alloc (by simp; omega) _).setCell hB _)
theorem reason_heavy (b : Nat) (k m : Int) (w : World) (hg : Err.ErrType w) (hf : FaultAt w b 4 k m) : Calls Tryd.prog 13 #[.iface 48 (.pointer (some ⟨b, 0, none⟩))] w fun e w' => e = .returned (.tuple #[.int .i64 k, .int .i64 m, .bool true]) ∧ Below w.heap.size w w' := by
  have hb1 : Below w.heap.size w (w.alloc (.cells #[.pointer none] 48)) := (Below.refl _ _).alloc (Nat.le_refl _) _
  have hc : (w.alloc (.cells #[.pointer none] 48)).cell? ⟨b, 0, none⟩ = some (.int .i64 4) := (hf.kept hb1).cells.1
  have his := Err.is_fault ⟨b, 0, none⟩ 4 4 _ hc
  have h44 : ((4 : Int) == 4) = true := rfl
  rw [h44] at his
  have hG1 := errType_kept hg hb1
  have has := asF_below ⟨b, 0, none⟩ ⟨w.heap.size, 0, none⟩ (.pointer none) (w.alloc (.cells #[.pointer none] 48)) w.heap.size (Nat.le_refl _) hG1 (by simp) (by simp)
  have hbl := lt_block hf
  have HF := Lib.hid hf
  clear h44 hc hG1 hf
  go_enter Tryd.func13, Tryd.ntmps13
  go_wp2_with (first | (go_at_call 21; refine his.mono ?_; rintro e w' ⟨rfl, rfl⟩) | (go_at_call 20; refine has.mono ?_; rintro e w2 ⟨rfl, hcell, hbel2⟩))
  have hbel : Below w.heap.size w w2 := hb1.trans hbel2
  have hF2 : FaultAt w2 b 4 k m := HF.out.kept hbel
  obtain ⟨c0, c1, c2⟩ := hF2.cells
  have HB := Lib.hid hbel
  clear hbel hbel2 hF2 hb1 his has
  go_quiet (fail)
  go_wp2
  go_ret3
  exact ⟨rfl, below_drewN HB.out _⟩
end Go.Proofs.YtahbigcjlindeaaDoor.W

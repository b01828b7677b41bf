/- The reference's Total, and two rows of the same numbers. Conditions: the slices read as functions. -/
import Derived.Test.YtahbigcjlindeaaDoorSums
import Derived.Test.YtahbigcjlindeaaDoorFault
namespace Go.Proofs.YtahbigcjlindeaaDoor.W
open Go.RowKit Go.Proofs.YtahbigcjlindeaaDoorW.PrintLast Go.Proofs.YtahbigcjlindeaaDoorW.PrintWords Go.Proofs.YtahbigcjlindeaaDoor.T
attribute [local go_sem] World.setCell_drew
set_option linter.unusedSimpArgs false
set_option linter.unusedVariables false

/-- How the reference's Total ends. -/
def RTotPost (T : Int × Int × Nat) (w : World) (e : Ending) (w' : World) : Prop := e = .returned (.tuple #[.int .i64 T.1, .int .i64 T.2.1, .int .i64 (T.2.2 : Nat)]) ∧ Below w.heap.size w w'
theorem rtot_ok {G : Nat → Int} {len : Nat} {acc : Int} {w w' : World} (h : TotAt G len len acc) (hb : Below w.heap.size w w') : RTotPost (tot G len 0 0) w (.returned (.tuple #[.int .i64 acc, .int .i64 0, .int .i64 0])) w' := by
  rw [h.last]; exact ⟨rfl, hb⟩
theorem rtot_neg {G : Nat → Int} {len k : Nat} {acc : Int} {w w' : World} (h : TotAt G len k acc) (hk : k < len) (h1 : G k < 0) (hb : Below w.heap.size w w') : RTotPost (tot G len 0 0) w (.returned (.tuple #[.int .i64 0, .int .i64 1, .int .i64 k])) w' := by
  rw [h.neg hk h1]; exact ⟨rfl, hb⟩
theorem rtot_much {G : Nat → Int} {len k : Nat} {acc : Int} {w w' : World} (h : TotAt G len k acc) (hk : k < len) (h1 : ¬ G k < 0) (h2 : 4611686018427387903 - acc < G k) (hb : Below w.heap.size w w') : RTotPost (tot G len 0 0) w (.returned (.tuple #[.int .i64 0, .int .i64 2, .int .i64 k])) w' := by
  rw [h.much hk h1 h2]; exact ⟨rfl, hb⟩
set_option maxRecDepth 100000 in
set_option maxHeartbeats 1000000 in
theorem rtotal_any (a : Option Addr) (len cap : Nat) (G : Nat → Int) (w : World) (hlen : len ≤ 140737488355328) (hrow : Row w a len G) :
    Calls Tryd.prog 15 #[.slice a len cap] w (RTotPost (tot G len 0 0) w) := by
  have HR := Lib.hid hrow
  clear hrow
  go_enter Tryd.func15, Tryd.ntmps15
  go_wp2
  go_loopw [5, 6] (fun n i wr => ∃ (k : Nat) (acc : Int), k ≤ len ∧ i = .int .i64 k ∧ n = .int .i64 acc ∧ 0 ≤ acc ∧ acc ≤ 4611686018427387903 ∧ TotAt G len k acc ∧ Below w.heap.size w wr) (fun _ i _ => len - (intOf i).toNat)
  case atStart => exact ⟨0, 0, Nat.zero_le _, rfl, rfl, by omega, by omega, rfl, Below.refl _ _⟩
  case round =>
    obtain ⟨k, acc, hk, rfl, rfl, h0, h1, hT, hB⟩ := hrel
    rename World => wr
    have HT := Lib.hid hT
    have HB := Lib.hid hB
    clear hT hB
    by_cases hlt : k < len
    · obtain ⟨ad, rfl, hx⟩ := HR.out.kept HB.out k hlt
      by_cases hneg : G k < 0
      · go_wp2
        repeat (go_quiet (fail); try go_wp2)
        go_ret3
        exact rtot_neg HT.out hlt hneg (by first | exact HB.out | exact T.below_drewN HB.out _)
      · by_cases hm : 4611686018427387903 - acc < G k
        · go_wp2
          repeat (go_quiet (fail); try go_wp2)
          go_ret3
          exact rtot_much HT.out hlt (by omega) hm (by first | exact HB.out | exact T.below_drewN HB.out _)
        · go_wp2
          repeat (go_quiet (fail); try go_wp2)
          go_roundw
          case rel => exact ⟨k + 1, acc + G k, by omega, by go_num, rfl, by omega, by omega, HT.out.step hlt (by omega) (by omega), by first | exact HB.out | exact T.below_drewN HB.out _⟩
          case measure => simp [intOf]; omega
    · obtain rfl : k = len := by omega
      go_wp2
      repeat (go_quiet (fail); try go_wp2)
      go_ret3
      exact rtot_ok HT.out (by first | exact HB.out | exact T.below_drewN HB.out _)
set_option maxRecDepth 100000 in
set_option maxHeartbeats 1000000 in
theorem ints_any (a : Option Addr) (len cap : Nat) (G : Nat → Int) (b : Option Addr) (capb : Nat) (H : Nat → Int) (w : World) (hlen : len ≤ 140737488355328) (hra : Row w a len G) (hrb : Row w b len H) (he : ∀ i, i < len → G i = H i) :
    Calls Tryd.prog 16 #[.slice a len cap, .slice b len capb] w fun e w' => e = .returned (.bool true) ∧ Below w.heap.size w w' := by
  have HA := Lib.hid hra
  have HH := Lib.hid hrb
  have HE := Lib.hid he
  clear hra hrb he
  go_enter Tryd.func16, Tryd.ntmps16
  go_wp2
  go_loopw [5] (fun i wr => ∃ (k : Nat), k ≤ len ∧ i = .int .i64 k ∧ Below w.heap.size w wr) (fun i _ => len - (intOf i).toNat)
  case atStart => exact ⟨0, Nat.zero_le _, rfl, Below.refl _ _⟩
  case round =>
    obtain ⟨k, hk, rfl, hB⟩ := hrel
    rename World => wr
    have HB := Lib.hid hB
    clear hB
    by_cases hlt : k < len
    · obtain ⟨ad, rfl, hx⟩ := HA.out.kept HB.out k hlt
      obtain ⟨bd, rfl, hy⟩ := HH.out.kept HB.out k hlt
      rw [← HE.out k hlt] at hy
      go_wp2
      repeat (go_quiet (fail); try go_wp2)
      go_roundw
      case rel => exact ⟨k + 1, by omega, by go_num, by first | exact HB.out | exact T.below_drewN HB.out _⟩
      case measure => simp [intOf]; omega
    · obtain rfl : k = len := by omega
      go_wp2
      go_ret
      exact ⟨rfl, HB.out⟩
/-- What Total's answer is, at a row that reads as the one that was copied. -/
theorem totals_much {G : Nat → Int} : ∀ (f i : Nat) (acc : Int), (tot G f i acc).2.1 ≠ 0 → (tot G f i acc).2.2 < i + f := by
  intro f
  induction f with
  | zero => intro i acc h; exact absurd rfl h
  | succ f ih =>
    intro i acc h
    simp only [tot] at h ⊢
    by_cases h1 : G i < 0
    · rw [if_pos h1]; show i < i + (f + 1); omega
    · rw [if_neg h1] at h ⊢
      by_cases h2 : 4611686018427387903 - acc < G i
      · rw [if_pos h2]; show i < i + (f + 1); omega
      · rw [if_neg h2] at h ⊢
        have := ih (i + 1) _ h
        omega
theorem tot_place {G : Nat → Int} : ∀ (f i : Nat) (acc : Int), (tot G f i acc).2.1 = 0 → (tot G f i acc).2.2 = 0 := by
  intro f
  induction f with
  | zero => intro i acc h; rfl
  | succ f ih =>
    intro i acc h
    simp only [tot] at h ⊢
    by_cases h1 : G i < 0
    · rw [if_pos h1] at h; cases h
    · rw [if_neg h1] at h ⊢
      by_cases h2 : 4611686018427387903 - acc < G i
      · rw [if_pos h2] at h; cases h
      · rw [if_neg h2] at h ⊢
        exact ih (i + 1) _ h
theorem tot_sum0 {G : Nat → Int} : ∀ (f i : Nat) (acc : Int), (tot G f i acc).2.1 ≠ 0 → (tot G f i acc).1 = 0 := by
  intro f
  induction f with
  | zero => intro i acc h; exact absurd rfl h
  | succ f ih =>
    intro i acc h
    simp only [tot] at h ⊢
    by_cases h1 : G i < 0
    · rw [if_pos h1]
    · rw [if_neg h1] at h ⊢
      by_cases h2 : 4611686018427387903 - acc < G i
      · rw [if_pos h2]
      · rw [if_neg h2] at h ⊢
        exact ih (i + 1) _ h
end Go.Proofs.YtahbigcjlindeaaDoor.W

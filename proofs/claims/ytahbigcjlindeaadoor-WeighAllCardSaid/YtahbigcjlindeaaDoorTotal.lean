/- weigh.Total and the reference's: the sum, or the first number that may not be. Conditions: the slice reads as the function G; it is of everyday length. -/
import Derived.Test.YtahbigcjlindeaaDoorBase
import Derived.LoopTactic
namespace Go.Proofs.YtahbigcjlindeaaDoor.W
open Go.RowKit
attribute [local go_sem] World.setCell_drew
set_option linter.unusedSimpArgs false
set_option linter.unusedVariables false

/-- A slice of ints reads as a function. -/
def Row (w : World) (a : Option Addr) (n : Nat) (G : Nat → Int) : Prop := ∀ i, i < n → ∃ ad, a = some ad ∧ w.cell? (ad.add i) = some (.int .i64 (G i))
theorem cell_kept {w w' : World} {a : Addr} {v : Value} (h : w.cell? a = some v) (hb : Below w.heap.size w w') : w'.cell? a = some v := by
  have hlt : a.block < w.heap.size := World.block_lt_of_cell? w _ h
  rw [World.cell?_of_block (w := w) (hb.block a.block hlt)]; exact h
theorem Row.kept {w w' : World} {a : Option Addr} {n : Nat} {G : Nat → Int} (h : Row w a n G) (hb : Below w.heap.size w w') : Row w' a n G := fun i hi => by
  obtain ⟨ad, e, hc⟩ := h i hi
  exact ⟨ad, e, cell_kept hc hb⟩
/-- What a sum comes to: the sum, the error's number, its place, how much stands there. -/
def tot (G : Nat → Int) : Nat → Nat → Int → Int × Int × Nat
  | 0, _, acc => (acc, 0, 0)
  | f + 1, i, acc => if G i < 0 then (0, 1, i) else if 4611686018427387903 - acc < G i then (0, 2, i) else tot G f (i + 1) (acc + G i)
theorem tot_go {G : Nat → Int} {f i : Nat} {acc : Int} (h1 : ¬ G i < 0) (h2 : ¬ 4611686018427387903 - acc < G i) : tot G (f + 1) i acc = tot G f (i + 1) (acc + G i) := by
  rw [tot, if_neg h1, if_neg h2]
/-- How Total ends. -/
def TotPost (T : Int × Int × Nat) (G : Nat → Int) (w : World) (e : Ending) (w' : World) : Prop :=
  (T.2.1 = 0 → e = .returned (.tuple #[.int .i64 T.1, .nilIface]) ∧ w = w') ∧
  (T.2.1 ≠ 0 → e = .returned (.tuple #[.int .i64 0, .iface 48 (.pointer (some ⟨w.heap.size, 0, none⟩))]) ∧ w.alloc (.cells #[.int .i64 T.2.1, .int .i64 T.2.2, .int .i64 (G T.2.2)] 52) = w')
def TotAt (G : Nat → Int) (len k : Nat) (acc : Int) : Prop := tot G (len - k) k acc = tot G len 0 0
theorem TotAt.step {G : Nat → Int} {len k : Nat} {acc : Int} (h : TotAt G len k acc) (hk : k < len) (h1 : ¬ G k < 0) (h2 : ¬ 4611686018427387903 - acc < G k) : TotAt G len (k + 1) (acc + G k) := by
  unfold TotAt at h ⊢
  rw [show len - k = (len - (k + 1)) + 1 by omega, tot_go h1 h2] at h
  exact h
theorem TotAt.last {G : Nat → Int} {len : Nat} {acc : Int} (h : TotAt G len len acc) : tot G len 0 0 = (acc, 0, 0) := by
  unfold TotAt at h
  rw [← h, Nat.sub_self]; rfl
theorem TotAt.neg {G : Nat → Int} {len k : Nat} {acc : Int} (h : TotAt G len k acc) (hk : k < len) (h1 : G k < 0) : tot G len 0 0 = (0, 1, k) := by
  unfold TotAt at h
  rw [← h, show len - k = (len - (k + 1)) + 1 by omega, tot, if_pos h1]
theorem TotAt.much {G : Nat → Int} {len k : Nat} {acc : Int} (h : TotAt G len k acc) (hk : k < len) (h1 : ¬ G k < 0) (h2 : 4611686018427387903 - acc < G k) : tot G len 0 0 = (0, 2, k) := by
  unfold TotAt at h
  rw [← h, show len - k = (len - (k + 1)) + 1 by omega, tot, if_neg h1, if_pos h2]
theorem totPost_ok {G : Nat → Int} {len : Nat} {acc : Int} {w : World} (h : TotAt G len len acc) : TotPost (tot G len 0 0) G w (.returned (.tuple #[.int .i64 acc, .nilIface])) w := by
  rw [h.last]; exact ⟨fun _ => ⟨rfl, rfl⟩, fun h => absurd rfl h⟩
theorem totPost_neg {G : Nat → Int} {len k : Nat} {acc : Int} {w : World} (h : TotAt G len k acc) (hk : k < len) (h1 : G k < 0) : TotPost (tot G len 0 0) G w (.returned (.tuple #[.int .i64 0, .iface 48 (.pointer (some ⟨w.heap.size, 0, none⟩))])) (w.alloc (.cells #[.int .i64 1, .int .i64 k, .int .i64 (G k)] 52)) := by
  rw [h.neg hk h1]; exact ⟨(fun h => by cases h), fun h => ⟨rfl, rfl⟩⟩
theorem totPost_much {G : Nat → Int} {len k : Nat} {acc : Int} {w : World} (h : TotAt G len k acc) (hk : k < len) (h1 : ¬ G k < 0) (h2 : 4611686018427387903 - acc < G k) : TotPost (tot G len 0 0) G w (.returned (.tuple #[.int .i64 0, .iface 48 (.pointer (some ⟨w.heap.size, 0, none⟩))])) (w.alloc (.cells #[.int .i64 2, .int .i64 k, .int .i64 (G k)] 52)) := by
  rw [h.much hk h1 h2]; exact ⟨(fun h => by cases h), fun h => ⟨rfl, rfl⟩⟩

set_option maxRecDepth 100000 in
theorem total_any (a : Option Addr) (len cap : Nat) (G : Nat → Int) (w : World) (hlen : len ≤ 140737488355328) (hrow : Row w a len G) :
    Calls Tryd.prog 10 #[.slice a len cap] w (TotPost (tot G len 0 0) G w) := by
  have HR := Lib.hid hrow
  clear hrow
  go_enter Tryd.func10, Tryd.ntmps10
  go_wp2
  go_loop [4, 9] (fun n i => ∃ (k : Nat) (acc : Int), k ≤ len ∧ i = .int .i64 k ∧ n = .int .i64 acc ∧ 0 ≤ acc ∧ acc ≤ 4611686018427387903 ∧ TotAt G len k acc) (fun _ i => len - (intOf i).toNat)
  case atStart => exact ⟨0, 0, Nat.zero_le _, rfl, rfl, by omega, by omega, rfl⟩
  case round =>
    obtain ⟨k, acc, hk, rfl, rfl, h0, h1, hT⟩ := hrel
    have HT := Lib.hid hT
    clear hT
    by_cases hlt : k < len
    · obtain ⟨ad, rfl, hx⟩ := HR.out k hlt
      by_cases hneg : G k < 0
      · go_wp2_with (go_at_call 19; refine (wrap_any _ _ _ _ (by decide)).mono ?_; rintro e w' ⟨rfl, rfl⟩)
        go_ret2
        exact totPost_neg HT.out hlt hneg
      · by_cases hm : 4611686018427387903 - acc < G k
        · go_wp2_with (go_at_call 19; refine (wrap_any _ _ _ _ (by decide)).mono ?_; rintro e w' ⟨rfl, rfl⟩)
          go_ret2
          exact totPost_much HT.out hlt (by omega) hm
        · go_wp2
          go_round
          case rel => exact ⟨k + 1, acc + G k, by omega, by go_num, rfl, by omega, by omega, HT.out.step hlt (by omega) (by omega)⟩
          case measure => simp [intOf]; omega
    · obtain rfl : k = len := by omega
      go_wp2
      go_ret2
      exact totPost_ok HT.out
end Go.Proofs.YtahbigcjlindeaaDoor.W

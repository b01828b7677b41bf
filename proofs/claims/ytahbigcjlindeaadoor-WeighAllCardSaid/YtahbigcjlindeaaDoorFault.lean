/- The statements' fault: an error is that of a number, a key, and how much. Conditions: errors.errorType holds the type error; the table's cells are known; the numbers are int64s. -/
import Derived.Test.YtahbigcjlindeaaDoorErrText
import Derived.Test.YtahbigcjlindeaaDoorAll
namespace Go.Proofs.YtahbigcjlindeaaDoor.W
open Go.RowKit Go.Proofs.YtahbigcjlindeaaDoor.T
attribute [local go_sem] World.setCell_drew
set_option linter.unusedSimpArgs false
set_option linter.unusedVariables false

theorem methodErrorF (f : Addr) (w : World) : (Go.method 231 48 (.pointer (some f)) "Error").run Tryd.prog w = .ok (62, .pointer (some f)) w := by kernel_rfl
theorem nilAheadErrorF (f : Addr) (w : World) : (nilAhead 231 48 (.pointer (some f)) "Error").run Tryd.prog w = .ok (some false) w := by kernel_rfl
theorem eqlString (s : ByteArray) (w : World) : (binOp .eql 9 (.string s) (.string s)).run Tryd.prog w = .ok (.bool true) w := by simp [go_sem]
theorem FaultAt.text {T : Nat → Int} {w : World} {b : Nat} {n k m : Int} (h : FaultAt w b n k m) (hn : I64 n) (hk : I64 k) (hm : I64 m) (ht : TabT T w) :
    Calls Tryd.prog 62 #[.pointer (some ⟨b, 0, none⟩)] w fun e w' => e = .returned (.string (faultS T n k m)) ∧ Below w.heap.size w w' := by
  obtain ⟨c0, c1, c2⟩ := h.cells
  exact faultText T b n k m hn hk hm w ht c0 c1 c2
theorem wrapB (n k m : Int) (w : World) (hn : n ≠ 0) :
    Calls Tryd.prog 19 #[.int .i64 n, .int .i64 k, .int .i64 m] w fun e w' => e = .returned (.iface 48 (.pointer (some ⟨w.heap.size, 0, none⟩))) ∧ FaultAt w' w.heap.size n k m ∧ Below w.heap.size w w' :=
  (wrap_any n k m w hn).mono fun e w' ⟨h1, h2⟩ => ⟨h1, (by rw [← h2]; exact heapNew _ _), h2 ▸ below_alloc _ _⟩
set_option maxHeartbeats 2000000 in
set_option maxRecDepth 100000 in
theorem fault_ok (T : Nat → Int) (v : Value) (n k m : Int) (hn : I64 n) (hk : I64 k) (hm : I64 m) (w : World) (het : Err.ErrType w) (ht : TabT T w) (h : ErrIs w v n k m) :
    Calls Tryd.prog 14 #[v, .int .i64 n, .int .i64 k, .int .i64 m] w fun e w' => e = .returned (.bool true) ∧ Below w.heap.size w w' := by
  have HET := Lib.hid het
  have HT := Lib.hid ht
  clear het ht
  rcases h with ⟨rfl, rfl⟩ | ⟨hn0, b, rfl, hf⟩
  · clear hn hk hm
    go_enter Tryd.func14, Tryd.ntmps14
    go_wp2
    go_ret
    exact ⟨rfl, Below.refl _ _⟩
  · have hb0 : (n == 0) = false := beq_eq_false_iff_ne.2 hn0
    have F0 := Lib.hid hf
    have HN := Lib.hid hn
    have HK := Lib.hid hk
    have HM := Lib.hid hm
    have N0 := Lib.hid hn0
    clear hf hn hk hm hn0
    have mE := methodErrorF
    have nE := nilAheadErrorF
    have eS := eqlString
    go_enter Tryd.func14, Tryd.ntmps14
    go_wp2_with fail
    refine (Err.number_any ⟨b, 0, none⟩ n _ HET.out F0.out.cells.1).mono ?_
    rintro e w1 ⟨rfl, hb1⟩
    have B1 := Lib.hid hb1
    clear hb1
    go_wp2_with fail
    refine ((F0.out.kept B1.out).text HN.out HK.out HM.out (HT.out.kept B1.out)).mono ?_
    rintro e w2 ⟨rfl, hb2⟩
    have B2 := Lib.hid (B1.out.trans (hb2.mono B1.out.size))
    clear hb2
    go_wp2_with fail
    refine (wrapB n k m _ N0.out).mono ?_
    rintro e w3 ⟨rfl, hf3, hb3⟩
    have F3 := Lib.hid hf3
    have B3 := Lib.hid (B2.out.trans (hb3.mono B2.out.size))
    clear hf3 hb3
    go_wp2_with fail
    refine (F3.out.text HN.out HK.out HM.out (HT.out.kept B3.out)).mono ?_
    rintro e w4 ⟨rfl, hb4⟩
    have B4 := Lib.hid (B3.out.trans (hb4.mono B3.out.size))
    clear hb4
    go_wp2_with fail
    go_ret
    exact ⟨rfl, B4.out⟩
end Go.Proofs.YtahbigcjlindeaaDoor.W

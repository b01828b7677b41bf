/- strconv.Itoa over a table of whatever values: a function of the table and the number. Conditions: the table's cells are known; the number is an int64. -/
import Derived.Test.YtlnekfodkeifkaaDoorItoa
namespace Go.Proofs.YtlnekfodkeifkaaDoor.T
open Go.RowKit Go.Sort Go.Lib
set_option linter.unusedSimpArgs false
set_option linter.unusedVariables false

theorem ba_of (x : ByteArray) (l : List UInt8) (h : x.data.toList = l) : x = ⟨l.toArray⟩ := by
  subst h
  cases x
  simp
set_option maxHeartbeats 2000000 in
set_option maxRecDepth 100000 in
theorem small_any (i : Nat) (h : i < 100) (w : World) :
    Calls Tryd.prog 61 #[.int .i64 i] w fun e w' => e = .returned (.string ⟨(Lib.decDigits i).toArray⟩) ∧ w = w' := by
  go_enter Tryd.func61, Tryd.ntmps61
  go_name_bytes_deep 45 SM hSM
  have eSM : SM = Lib.smalls := by rw [← hSM]; decide +kernel
  subst eSM
  clear hSM
  go_name_bytes_deep 30 DG hDG
  have eDG : DG = Lib.digits36 := by rw [← hDG]; decide +kernel
  subst eDG
  clear hDG
  by_cases h10 : i < 10
  · have hsl : ∀ w, (Instr.slice 9 (.string Lib.digits36) (some (.int .i64 (i : Int))) (some (.int .i64 ((i : Int) + 1))) none).run Tryd.prog w = .ok (.string (Lib.digits36.extract i (i + 1))) w := fun w => by
      rw [run_slice_string w 9 Lib.digits36 .i64 .i64 _ _ Tryd.underlying9 (by omega) (by omega) (by rw [Lib.digits36_size]; omega), show ((i : Int)).toNat = i by omega, show ((i : Int) + 1).toNat = i + 1 by omega]
    go_wp2
    go_ret
    refine ⟨?_, rfl⟩
    show Ending.returned (Value.string (Lib.digits36.extract i (i + 1))) = _
    rw [ba_of (Lib.digits36.extract i (i + 1)) (Lib.decDigits i) (by rw [Lib.extract_data]; exact Lib.digits36_piece h10)]
  · have hsl : ∀ w, (Instr.slice 9 (.string Lib.smalls) (some (.int .i64 ((i : Int) * 2))) (some (.int .i64 ((i : Int) * 2 + 2))) none).run Tryd.prog w = .ok (.string (Lib.smalls.extract (i * 2) (i * 2 + 2))) w := fun w => by
      rw [run_slice_string w 9 Lib.smalls .i64 .i64 _ _ Tryd.underlying9 (by omega) (by omega) (by rw [Lib.smalls_size]; omega), show ((i : Int) * 2).toNat = i * 2 by omega, show ((i : Int) * 2 + 2).toNat = i * 2 + 2 by omega]
    go_wp2
    go_ret
    refine ⟨?_, rfl⟩
    show Ending.returned (Value.string (Lib.smalls.extract (i * 2) (i * 2 + 2))) = _
    rw [ba_of (Lib.smalls.extract (i * 2) (i * 2 + 2)) (Lib.decDigits i) (by rw [Lib.extract_data]; exact Lib.smalls_piece h10 h)]

/-- What is written of a number that is not small. -/
def rowT (T : Nat → Int) (u : Nat) : Array UInt8 := fb u (Array.replicate (ndT T u) 0)
theorem rowT_size (T : Nat → Int) (u : Nat) : (rowT T u).size = ndT T u := by unfold rowT fb; rw [fbL_size]; simp
/-- The text of a number. -/
def itoaT (T : Nat → Int) (n : Int) : List UInt8 := if 0 ≤ n ∧ n < 100 then Lib.decDigits n.toNat else if n < 0 then 45 :: (rowT T (-n).toNat).toList else (rowT T n.toNat).toList
theorem itoaT_small (T : Nat → Int) (i : Nat) (h : i < 100) : itoaT T i = Lib.decDigits i := by unfold itoaT; rw [if_pos ⟨by omega, by omega⟩]; rfl
theorem itoaT_neg (T : Nat → Int) (u : Nat) (h : 1 ≤ u) : itoaT T (-(u : Int)) = 45 :: (rowT T u).toList := by unfold itoaT; rw [if_neg (by omega), if_pos (by omega), Int.neg_neg]; rfl
theorem itoaT_pos (T : Nat → Int) (u : Nat) (h : 100 ≤ u) : itoaT T (u : Int) = (rowT T u).toList := by unfold itoaT; rw [if_neg (by omega), if_neg (by omega)]; rfl
theorem below_drewN {B : Nat} {w w' : World} (h : Below B w w') (n : Nat) : Below B w (w'.drewN n) := h.trans ⟨rfl, rfl, rfl, Nat.le_refl _, fun _ _ => rfl⟩
theorem below_row (w : World) (o : Obj) (dk : Array UInt8) (k : Nat) : Below w.heap.size w ((putRow (fun (b : UInt8) => Value.int .u8 (b.toNat : Int)) (w.alloc o) w.heap.size 1 dk).drewN k) := by
  obtain ⟨os, e⟩ := Lib.fin_pos w o dk k
  rw [e]
  refine ⟨rfl, rfl, rfl, ?_, fun b hb => ?_⟩
  · simp [grow]
  · show (w.heap ++ os)[b]? = w.heap[b]?
    exact Array.getElem?_append_left hb
theorem get_row (dk : Array UInt8) (j : Nat) (hj : j < dk.toList.length) : dk.toList[j] = dk[j]! := by
  rw [getElem!_pos dk j (by simpa using hj)]; simp

set_option maxHeartbeats 6400000 in
set_option maxRecDepth 100000 in
theorem formatInt_any (T : Nat → Int) (n : Int) (h0 : -9223372036854775808 ≤ n) (h1 : n ≤ 9223372036854775807) (w : World) (ht : TabT T w) :
    Calls Tryd.prog 60 #[.int .i64 n, .int .i64 10] w fun e w' => e = .returned (.string ⟨(itoaT T n).toArray⟩) ∧ Below w.heap.size w w' := by
  by_cases hs : 0 ≤ n ∧ n < 100
  · obtain ⟨i, rfl⟩ : ∃ i : Nat, n = i := ⟨n.toNat, by omega⟩
    have hi : i < 100 := by omega
    rw [itoaT_small T i hi]
    go_enter Tryd.func60, Tryd.ntmps60
    go_wp2_with (go_at_call 61; refine (small_any i hi _).mono ?_; rintro e w' ⟨rfl, rfl⟩)
    go_ret
    exact ⟨rfl, Below.refl _ _⟩
  · have hal : Tryd.prog.arrayLen 103 = 24 := by simp [Program.arrayLen, Tryd.underlying103]
    by_cases hneg : n < 0
    · obtain ⟨u, rfl⟩ : ∃ u : Nat, n = -(u : Int) := ⟨n.natAbs, by omega⟩
      have hu1 : 1 ≤ u := by omega
      have hu64 : u < 18446744073709551616 := by omega
      rw [itoaT_neg T u hu1]
      have hnd20 := (ndT_le T u hu1 hu64).1
      have hrs := rowT_size T u
      have htA : TabT T (w.alloc (.cells Lib.zeros24 103)) := ht.kept ((Below.refl _ _).alloc (Nat.le_refl _) _)
      have hnum := numDigits_any T u hu1 hu64 _ htA
      have hH0 := Lib.holds_zero w 103 (ndT T u) (by omega)
      have hfmt := fb_any w.heap.size 1 23 u (Array.replicate (ndT T u) 0) (w.alloc (.cells Lib.zeros24 103)) hH0 hu64 (by rw [Array.size_replicate]; omega)
      change Calls _ _ _ _ (fun e w' => e = _ ∧ ∃ n, w' = (putRow _ _ _ _ (rowT T u)).drewN n) at hfmt
      rw [Array.size_replicate] at hfmt
      have hsR : (Array.replicate (ndT T u) (0 : UInt8)).size = ndT T u := Array.size_replicate
      generalize rowT T u = R at hrs hfmt ⊢
      generalize hnd : ndT T u = nd at *
      clear hnd ht htA
      have hwr : IntKind.u64.wrap (-IntKind.u64.wrap (-(u : Int))) = (u : Int) := by rw [IntKind.wrap_u64, IntKind.wrap_u64]; omega
      have hsl1 : ∀ W, (Instr.sliceAt 103 (.pointer (some ⟨w.heap.size, 0, none⟩)) (some (.int .i64 1)) (some (.int .i64 (1 + (nd : Int)))) none).run Tryd.prog W = .ok (.slice (some ⟨w.heap.size, 1, none⟩) nd 23) W := fun W => by
        rw [run_sliceAt_array_lh W 103 ⟨w.heap.size, 0, none⟩ (by simp [Program.arrayLen, Program.elem, Tryd.underlying103]) .i64 .i64 1 (1 + (nd : Int)) (by omega) (by omega) (by rw [hal]; omega)]
        go_simp
        omega
      have HH0 := Lib.hid hH0
      have HR := Lib.hid hrs
      have HS := Lib.hid hsR
      have HAL := Lib.hid hal
      clear hH0 hal hrs hsR
      go_enter Tryd.func60, Tryd.ntmps60
      go_wp2_with (go_at_call 62; refine hnum.mono ?_; rintro e w' ⟨rfl, rfl⟩)
      go_at_call 63
      refine hfmt.mono ?_
      rintro e w' ⟨rfl, k, rfl⟩
      have hc0 : ((putRow (fun (b : UInt8) => Value.int .u8 (b.toNat : Int)) (w.alloc (.cells Lib.zeros24 103)) w.heap.size 1 R).drewN k).cell? ⟨w.heap.size, 0, none⟩ = some (.int .u8 0) := by
        rw [World.cell?_drewN, cell?_putRow_other _ _ _ _ _ _ (Or.inr (Or.inl (Nat.zero_lt_one))), World.cell?_alloc_new]
        exact Lib.zeros24_at 0 (by omega)
      have hf0 : ((putRow (fun (b : UInt8) => Value.int .u8 (b.toNat : Int)) (w.alloc (.cells Lib.zeros24 103)) w.heap.size 1 R).drewN k).frozen? ⟨w.heap.size, 0, none⟩ = false := by
        rw [World.frozen?_drewN, frozen?_putRow]
        exact World.frozen?_alloc_new _ _ _ _
      have hsl2 : ∀ W, (Instr.sliceAt 103 (.pointer (some ⟨w.heap.size, 0, none⟩)) none (some (.int .i64 (1 + (nd : Int)))) none).run Tryd.prog W = .ok (.slice (some ⟨w.heap.size, 0, none⟩) (1 + nd) 24) W := fun W => by
        have hal := HAL.out
        rw [run_sliceAt_array_h W 103 ⟨w.heap.size, 0, none⟩ (by simp [Program.arrayLen, Program.elem, Tryd.underlying103]) .i64 (1 + (nd : Int)) (by omega) (by rw [hal]; omega)]
        go_simp
        omega
      have hcv : (convert 107 9 (.slice (some ⟨w.heap.size, 0, none⟩) (1 + nd) 24)).run Tryd.prog (((putRow (fun (b : UInt8) => Value.int .u8 (b.toNat : Int)) (w.alloc (.cells Lib.zeros24 103)) w.heap.size 1 R).drewN k).setCell ⟨w.heap.size, 0, none⟩ (.int .u8 45)) = .ok (.string ⟨(45 :: R.toList).toArray⟩) (((putRow (fun (b : UInt8) => Value.int .u8 (b.toNat : Int)) (w.alloc (.cells Lib.zeros24 103)) w.heap.size 1 R).drewN k).setCell ⟨w.heap.size, 0, none⟩ (.int .u8 45)) := by
        have h := run_convert_bytes_back (P := Tryd.prog) (((putRow (fun (b : UInt8) => Value.int .u8 (b.toNat : Int)) (w.alloc (.cells Lib.zeros24 103)) w.heap.size 1 R).drewN k).setCell ⟨w.heap.size, 0, none⟩ (.int .u8 45)) 107 9 5 ⟨w.heap.size, 0, none⟩ 24 (45 :: R.toList) Tryd.underlying107 Tryd.underlying5 Tryd.underlying9 (fun j hj => by
          rw [Lib.add_plain]
          cases j with
          | zero => exact World.cell?_setCell_same _ _ _ hc0
          | succ i =>
            have hi : i < R.toList.length := by simpa using hj
            have hi' : i < R.size := by simpa using hi
            rw [World.cell?_setCell_other _ _ _ _ (by simp), List.getElem_cons_succ, get_row R i hi, World.cell?_drewN, show 0 + (i + 1) = 1 + i by omega]
            exact cell?_putRow (fun (b : UInt8) => Value.int .u8 (b.toNat : Int)) _ w.heap.size 1 _ R HH0.out (by rw [HR.out, HS.out]) i hi')
        rw [List.length_cons, Array.length_toList, HR.out, Nat.add_comm] at h
        exact h
      have HB := Lib.hid (below_row w (.cells Lib.zeros24 103) R k)
      go_wp2
      go_ret
      exact ⟨rfl, HB.out.setCell (Nat.le_refl _) _⟩
    · obtain ⟨u, rfl⟩ : ∃ u : Nat, n = u := ⟨n.toNat, by omega⟩
      have hu1 : 1 ≤ u := by omega
      have hu64 : u < 18446744073709551616 := by omega
      rw [itoaT_pos T u (by omega)]
      have hnd20 := (ndT_le T u hu1 hu64).1
      have hrs := rowT_size T u
      have htA : TabT T (w.alloc (.cells Lib.zeros24 103)) := ht.kept ((Below.refl _ _).alloc (Nat.le_refl _) _)
      have hnum := numDigits_any T u hu1 hu64 _ htA
      have hH0 := Lib.holds_zero w 103 (ndT T u) (by omega)
      have hfmt := fb_any w.heap.size 1 23 u (Array.replicate (ndT T u) 0) (w.alloc (.cells Lib.zeros24 103)) hH0 hu64 (by rw [Array.size_replicate]; omega)
      change Calls _ _ _ _ (fun e w' => e = _ ∧ ∃ n, w' = (putRow _ _ _ _ (rowT T u)).drewN n) at hfmt
      rw [Array.size_replicate] at hfmt
      have hsR : (Array.replicate (ndT T u) (0 : UInt8)).size = ndT T u := Array.size_replicate
      generalize rowT T u = R at hrs hfmt ⊢
      generalize hnd : ndT T u = nd at *
      clear hnd ht htA
      have hsl1 : ∀ W, (Instr.sliceAt 103 (.pointer (some ⟨w.heap.size, 0, none⟩)) (some (.int .i64 1)) (some (.int .i64 (1 + (nd : Int)))) none).run Tryd.prog W = .ok (.slice (some ⟨w.heap.size, 1, none⟩) nd 23) W := fun W => by
        rw [run_sliceAt_array_lh W 103 ⟨w.heap.size, 0, none⟩ (by simp [Program.arrayLen, Program.elem, Tryd.underlying103]) .i64 .i64 1 (1 + (nd : Int)) (by omega) (by omega) (by rw [hal]; omega)]
        go_simp
        omega
      have HH0 := Lib.hid hH0
      have HR := Lib.hid hrs
      have HS := Lib.hid hsR
      clear hH0 hal hrs hsR
      go_enter Tryd.func60, Tryd.ntmps60
      go_wp2_with (go_at_call 62; refine hnum.mono ?_; rintro e w' ⟨rfl, rfl⟩)
      go_at_call 63
      refine hfmt.mono ?_
      rintro e w' ⟨rfl, k, rfl⟩
      have hcv : (convert 107 9 (.slice (some ⟨w.heap.size, 1, none⟩) nd 23)).run Tryd.prog ((putRow (fun (b : UInt8) => Value.int .u8 (b.toNat : Int)) (w.alloc (.cells Lib.zeros24 103)) w.heap.size 1 R).drewN k) = .ok (.string ⟨R.toList.toArray⟩) ((putRow (fun (b : UInt8) => Value.int .u8 (b.toNat : Int)) (w.alloc (.cells Lib.zeros24 103)) w.heap.size 1 R).drewN k) := by
        have h := run_convert_bytes_back (P := Tryd.prog) ((putRow (fun (b : UInt8) => Value.int .u8 (b.toNat : Int)) (w.alloc (.cells Lib.zeros24 103)) w.heap.size 1 R).drewN k) 107 9 5 ⟨w.heap.size, 1, none⟩ 23 R.toList Tryd.underlying107 Tryd.underlying5 Tryd.underlying9 (fun j hj => by
          have hj' : j < R.size := by simpa using hj
          rw [get_row R j hj, Lib.add_plain, World.cell?_drewN]
          exact cell?_putRow (fun (b : UInt8) => Value.int .u8 (b.toNat : Int)) _ w.heap.size 1 _ R HH0.out (by rw [HR.out, HS.out]) j hj')
        rw [Array.length_toList, HR.out] at h
        exact h
      have HB := Lib.hid (below_row w (.cells Lib.zeros24 103) R k)
      go_wp2
      go_ret
      exact ⟨rfl, HB.out⟩
theorem iitoa_any (T : Nat → Int) (n : Int) (h0 : -9223372036854775808 ≤ n) (h1 : n ≤ 9223372036854775807) (w : World) (ht : TabT T w) :
    Calls Tryd.prog 59 #[.int .i64 n] w fun e w' => e = .returned (.string ⟨(itoaT T n).toArray⟩) ∧ Below w.heap.size w w' := by
  have hf := formatInt_any T n h0 h1 w ht
  clear ht
  go_enter Tryd.func59, Tryd.ntmps59
  go_wp2_with (go_at_call 60; refine hf.mono ?_; rintro e w' ⟨rfl, hb⟩)
  go_ret
  exact ⟨rfl, hb⟩
theorem itoa_any (T : Nat → Int) (n : Int) (h0 : -9223372036854775808 ≤ n) (h1 : n ≤ 9223372036854775807) (w : World) (ht : TabT T w) :
    Calls Tryd.prog 58 #[.int .i64 n] w fun e w' => e = .returned (.string ⟨(itoaT T n).toArray⟩) ∧ Below w.heap.size w w' := by
  have hf := iitoa_any T n h0 h1 w ht
  clear ht
  go_enter Tryd.func58, Tryd.ntmps58
  go_wp2_with (go_at_call 59; refine hf.mono ?_; rintro e w' ⟨rfl, hb⟩)
  go_ret
  exact ⟨rfl, hb⟩
end Go.Proofs.YtlnekfodkeifkaaDoor.T

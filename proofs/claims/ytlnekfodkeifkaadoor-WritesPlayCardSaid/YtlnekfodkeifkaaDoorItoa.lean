/- strconv.Itoa, and the texts of the program's errors, over a table internal/strconv.uint64pow10 of whatever values: the text is a function of the table and the numbers. Conditions: the table's cells are known; the numbers are int64s. -/
import Derived.Test.YtlnekfodkeifkaaDoorItoaF
import Derived.Lib.ItoaMem
import Derived.Lib.BitFns
import Derived.Lib.Strings
import Derived.Lib.Slices
import Derived.Lib.Small
import Derived.Lib.Walk
import Derived.Lib.Hide
import Derived.Laws.Strings
namespace Go.Proofs.YtlnekfodkeifkaaDoor.T
open Go.RowKit Go.Sort Go.Lib
set_option linter.unusedSimpArgs false
set_option linter.unusedVariables false

/-- The table holds the values T. -/
def TabT (T : Nat → Int) (w : World) : Prop := ∀ i, i < 20 → w.cell? ⟨1, i, none⟩ = some (.int .u64 (T i))
theorem TabT.kept {T : Nat → Int} {w w' : World} (h : TabT T w) (hb : Below w.heap.size w w') : TabT T w' := fun i hi => by
  have hc := h i hi
  have hlt : 1 < w.heap.size := World.block_lt_of_cell? w _ hc
  rw [World.cell?_of_block (w := w) (hb.block 1 hlt)]; exact hc
/-- How many places are taken. -/
def ndT (T : Nat → Int) (u : Nat) : Nat := Lib.l10 (Lib.bitLen u) + (if T (Lib.l10 (Lib.bitLen u)) ≤ (u : Int) then 1 else 0)
theorem ndT_le (T : Nat → Int) (u : Nat) (h1 : 1 ≤ u) (h2 : u < 18446744073709551616) : ndT T u ≤ 20 ∧ Lib.l10 (Lib.bitLen u) ≤ 19 := by
  have := (numDigits_eq u h1 h2).2
  unfold ndT
  split <;> omega
/-- The one way of Len64 through its last part. -/
theorem idx_len8 (i : Int) (h0 : 0 ≤ i) (h1 : i ≤ 255) (w : World) : (Instr.index 9 (.string Lib.len8tab) (.int .u8 i)).run Tryd.prog w = .ok (.int .u8 (Lib.bitLen i.toNat : Nat)) w := by
  rw [run_index_len8tab w 9 .u8 i Tryd.underlying9 h0 h1, Lib.len8_of i h0 h1]
set_option maxHeartbeats 4000000 in
set_option maxRecDepth 100000 in
theorem len64_any (u : Nat) (h2 : u < 18446744073709551616) (w : World) : Calls Tryd.prog 66 #[.int .u64 u] w fun e w' => e = .returned (.int .i64 (Lib.bitLen u)) ∧ w = w' := by
  obtain ⟨x, hx⟩ : ∃ x : Int, (u : Int) = x := ⟨_, rfl⟩
  have h0 : 0 ≤ x := by omega
  have h1 : x ≤ 18446744073709551615 := by omega
  have hu : u = x.toNat := by omega
  rw [hx, hu]
  clear hx hu h2
  by_cases c0 : 4294967296 ≤ x
  · by_cases c1 : 65536 ≤ x / 4294967296
    · by_cases c2 : 256 ≤ x / 4294967296 / 65536
      · have hi := idx_len8 (x / 4294967296 / 65536 / 256) (by omega) (by omega)
        have l := Lib.bitLen_le8' (x / 4294967296 / 65536 / 256) (by omega) (by omega)
        have ee : ((x / 4294967296 / 65536 / 256).toNat : Nat) = x.toNat / 72057594037927936 := by omega
        have s := Lib.bitLen_shift56 x.toNat (by omega) (by omega)
        obtain ⟨z, hz⟩ : ∃ z, Lib.bitLen (x / 4294967296 / 65536 / 256).toNat = z := ⟨_, rfl⟩
        rw [hz] at hi l
        rw [ee] at hz
        rw [hz] at s
        rw [s]
        clear s hz ee
        go_enter Tryd.func66, Tryd.ntmps66
        go_name_bytes LT hLT
        have eLT : LT = Lib.len8tab := by rw [← hLT]; decide +kernel
        subst eLT
        clear hLT
        go_wp2
        go_ret
        refine ⟨congrArg Ending.returned (congrArg (Value.int IntKind.i64) ?_), rfl⟩
        omega
      · have hi := idx_len8 (x / 4294967296 / 65536) (by omega) (by omega)
        have l := Lib.bitLen_le8' (x / 4294967296 / 65536) (by omega) (by omega)
        have ee : ((x / 4294967296 / 65536).toNat : Nat) = x.toNat / 281474976710656 := by omega
        have s := Lib.bitLen_shift48 x.toNat (by omega) (by omega)
        obtain ⟨z, hz⟩ : ∃ z, Lib.bitLen (x / 4294967296 / 65536).toNat = z := ⟨_, rfl⟩
        rw [hz] at hi l
        rw [ee] at hz
        rw [hz] at s
        rw [s]
        clear s hz ee
        go_enter Tryd.func66, Tryd.ntmps66
        go_name_bytes LT hLT
        have eLT : LT = Lib.len8tab := by rw [← hLT]; decide +kernel
        subst eLT
        clear hLT
        go_wp2
        go_ret
        refine ⟨congrArg Ending.returned (congrArg (Value.int IntKind.i64) ?_), rfl⟩
        omega
    · by_cases c2 : 256 ≤ x / 4294967296
      · have hi := idx_len8 (x / 4294967296 / 256) (by omega) (by omega)
        have l := Lib.bitLen_le8' (x / 4294967296 / 256) (by omega) (by omega)
        have ee : ((x / 4294967296 / 256).toNat : Nat) = x.toNat / 1099511627776 := by omega
        have s := Lib.bitLen_shift40 x.toNat (by omega) (by omega)
        obtain ⟨z, hz⟩ : ∃ z, Lib.bitLen (x / 4294967296 / 256).toNat = z := ⟨_, rfl⟩
        rw [hz] at hi l
        rw [ee] at hz
        rw [hz] at s
        rw [s]
        clear s hz ee
        go_enter Tryd.func66, Tryd.ntmps66
        go_name_bytes LT hLT
        have eLT : LT = Lib.len8tab := by rw [← hLT]; decide +kernel
        subst eLT
        clear hLT
        go_wp2
        go_ret
        refine ⟨congrArg Ending.returned (congrArg (Value.int IntKind.i64) ?_), rfl⟩
        omega
      · have hi := idx_len8 (x / 4294967296) (by omega) (by omega)
        have l := Lib.bitLen_le8' (x / 4294967296) (by omega) (by omega)
        have ee : ((x / 4294967296).toNat : Nat) = x.toNat / 4294967296 := by omega
        have s := Lib.bitLen_shift32 x.toNat (by omega) (by omega)
        obtain ⟨z, hz⟩ : ∃ z, Lib.bitLen (x / 4294967296).toNat = z := ⟨_, rfl⟩
        rw [hz] at hi l
        rw [ee] at hz
        rw [hz] at s
        rw [s]
        clear s hz ee
        go_enter Tryd.func66, Tryd.ntmps66
        go_name_bytes LT hLT
        have eLT : LT = Lib.len8tab := by rw [← hLT]; decide +kernel
        subst eLT
        clear hLT
        go_wp2
        go_ret
        refine ⟨congrArg Ending.returned (congrArg (Value.int IntKind.i64) ?_), rfl⟩
        omega
  · by_cases c1 : 65536 ≤ x
    · by_cases c2 : 256 ≤ x / 65536
      · have hi := idx_len8 (x / 65536 / 256) (by omega) (by omega)
        have l := Lib.bitLen_le8' (x / 65536 / 256) (by omega) (by omega)
        have ee : ((x / 65536 / 256).toNat : Nat) = x.toNat / 16777216 := by omega
        have s := Lib.bitLen_shift24 x.toNat (by omega) (by omega)
        obtain ⟨z, hz⟩ : ∃ z, Lib.bitLen (x / 65536 / 256).toNat = z := ⟨_, rfl⟩
        rw [hz] at hi l
        rw [ee] at hz
        rw [hz] at s
        rw [s]
        clear s hz ee
        go_enter Tryd.func66, Tryd.ntmps66
        go_name_bytes LT hLT
        have eLT : LT = Lib.len8tab := by rw [← hLT]; decide +kernel
        subst eLT
        clear hLT
        go_wp2
        go_ret
        refine ⟨congrArg Ending.returned (congrArg (Value.int IntKind.i64) ?_), rfl⟩
        omega
      · have hi := idx_len8 (x / 65536) (by omega) (by omega)
        have l := Lib.bitLen_le8' (x / 65536) (by omega) (by omega)
        have ee : ((x / 65536).toNat : Nat) = x.toNat / 65536 := by omega
        have s := Lib.bitLen_shift16 x.toNat (by omega) (by omega)
        obtain ⟨z, hz⟩ : ∃ z, Lib.bitLen (x / 65536).toNat = z := ⟨_, rfl⟩
        rw [hz] at hi l
        rw [ee] at hz
        rw [hz] at s
        rw [s]
        clear s hz ee
        go_enter Tryd.func66, Tryd.ntmps66
        go_name_bytes LT hLT
        have eLT : LT = Lib.len8tab := by rw [← hLT]; decide +kernel
        subst eLT
        clear hLT
        go_wp2
        go_ret
        refine ⟨congrArg Ending.returned (congrArg (Value.int IntKind.i64) ?_), rfl⟩
        omega
    · by_cases c2 : 256 ≤ x
      · have hi := idx_len8 (x / 256) (by omega) (by omega)
        have l := Lib.bitLen_le8' (x / 256) (by omega) (by omega)
        have ee : ((x / 256).toNat : Nat) = x.toNat / 256 := by omega
        have s := Lib.bitLen_shift8 x.toNat (by omega) (by omega)
        obtain ⟨z, hz⟩ : ∃ z, Lib.bitLen (x / 256).toNat = z := ⟨_, rfl⟩
        rw [hz] at hi l
        rw [ee] at hz
        rw [hz] at s
        rw [s]
        clear s hz ee
        go_enter Tryd.func66, Tryd.ntmps66
        go_name_bytes LT hLT
        have eLT : LT = Lib.len8tab := by rw [← hLT]; decide +kernel
        subst eLT
        clear hLT
        go_wp2
        go_ret
        refine ⟨congrArg Ending.returned (congrArg (Value.int IntKind.i64) ?_), rfl⟩
        omega
      · have hi := idx_len8 (x) (by omega) (by omega)
        have l := Lib.bitLen_le8' (x) (by omega) (by omega)
        have ee : (x).toNat = x.toNat := by omega
        obtain ⟨z, hz⟩ : ∃ z, Lib.bitLen (x).toNat = z := ⟨_, rfl⟩
        rw [hz] at hi l
        rw [ee] at hz
        have s := hz
        rw [s]
        clear s hz ee
        go_enter Tryd.func66, Tryd.ntmps66
        go_name_bytes LT hLT
        have eLT : LT = Lib.len8tab := by rw [← hLT]; decide +kernel
        subst eLT
        clear hLT
        go_wp2
        go_ret
        refine ⟨congrArg Ending.returned (congrArg (Value.int IntKind.i64) ?_), rfl⟩
        omega
theorem log_any (x : Nat) (h : x ≤ 64) (w : World) : Calls Tryd.prog 65 #[.int .i64 x] w fun e w' => e = .returned (.int .i64 (Lib.l10 x)) ∧ w = w' := by
  go_enter Tryd.func65, Tryd.ntmps65
  go_wp2
  go_ret
  refine ⟨?_, rfl⟩
  (congr 2) <;> (unfold Lib.l10; omega)
theorem bool2_any (b : Bool) (w : World) : Calls Tryd.prog 67 #[.bool b] w fun e w' => e = .returned (.int .i64 (if b then 1 else 0)) ∧ w = w' := by
  cases b <;> (
    go_enter Tryd.func67, Tryd.ntmps67
    go_wp2
    go_ret
    exact ⟨rfl, rfl⟩)
set_option maxHeartbeats 2000000 in
set_option maxRecDepth 100000 in
theorem numDigits_any (T : Nat → Int) (u : Nat) (h1 : 1 ≤ u) (h2 : u < 18446744073709551616) (w : World) (ht : TabT T w) :
    Calls Tryd.prog 62 #[.int .u64 u] w fun e w' => e = .returned (.int .i64 (ndT T u)) ∧ w = w' := by
  have hq19 := (ndT_le T u h1 h2).2
  have hL : Lib.bitLen u ≤ 64 := bitLen_le u 64 (Nat.le_refl _) h2
  have hcell := ht _ (show Lib.l10 (Lib.bitLen u) < 20 by omega)
  have hl := len64_any u h2 w
  have hg := log_any (Lib.bitLen u) hL w
  unfold ndT
  generalize Lib.l10 (Lib.bitLen u) = q at hq19 hcell hg ⊢
  generalize Lib.bitLen u = b at hl hg
  obtain ⟨t, htv⟩ : ∃ t, T q = t := ⟨_, rfl⟩
  rw [htv] at hcell ⊢
  clear htv ht hL
  by_cases hle : t ≤ (u : Int)
  · rw [if_pos hle]
    go_enter Tryd.func62, Tryd.ntmps62
    go_wp2_with (first
      | (go_at_call 66; refine hl.mono ?_; rintro e w' ⟨rfl, rfl⟩)
      | (go_at_call 65; refine hg.mono ?_; rintro e w' ⟨rfl, rfl⟩)
      | (go_at_call 67; refine (bool2_any _ _).mono ?_; rintro e w' ⟨rfl, rfl⟩))
    go_ret
    exact ⟨rfl, rfl⟩
  · rw [if_neg hle]
    go_enter Tryd.func62, Tryd.ntmps62
    go_wp2_with (first
      | (go_at_call 66; refine hl.mono ?_; rintro e w' ⟨rfl, rfl⟩)
      | (go_at_call 65; refine hg.mono ?_; rintro e w' ⟨rfl, rfl⟩)
      | (go_at_call 67; refine (bool2_any _ _).mono ?_; rintro e w' ⟨rfl, rfl⟩))
    go_ret
    exact ⟨rfl, rfl⟩
end Go.Proofs.YtlnekfodkeifkaaDoor.T

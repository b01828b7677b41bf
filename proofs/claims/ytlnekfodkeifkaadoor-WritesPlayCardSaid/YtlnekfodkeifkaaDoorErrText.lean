/- The texts of the program's errors, over a table of whatever values: functions of the table and the numbers. Conditions: the table's cells are known; the numbers are int64s; the fault's cells are known. -/
import Derived.Test.YtlnekfodkeifkaaDoorItoaE
import Derived.Lib.ItoaLen
import Derived.Deep.RegionHeld3
import Derived.Deep.RegionWith
namespace Go.Proofs.YtlnekfodkeifkaaDoor.T
open Go.RowKit Go.Sort Go.Lib
set_option linter.unusedSimpArgs false
set_option linter.unusedVariables false

def I64 (n : Int) : Prop := -9223372036854775808 ≤ n ∧ n ≤ 9223372036854775807
theorem itoaI (T : Nat → Int) (n : Int) (h : I64 n) (w : World) (ht : TabT T w) :
    Calls Tryd.prog 58 #[.int .i64 n] w fun e w' => e = .returned (.string ⟨(itoaT T n).toArray⟩) ∧ Below w.heap.size w w' := itoa_any T n h.1 h.2 w ht
theorem itoaT_len (T : Nat → Int) (n : Int) (h : I64 n) : (⟨(itoaT T n).toArray⟩ : ByteArray).size ≤ 21 := by
  show (itoaT T n).toArray.size ≤ 21
  rw [List.size_toArray]
  unfold I64 at h
  by_cases h1 : 0 ≤ n ∧ n < 100
  · obtain ⟨i, rfl⟩ : ∃ i : Nat, n = i := ⟨n.toNat, by omega⟩
    rw [itoaT_small T i (by omega), ← Lib.itoa_nonneg]
    exact Lib.itoa_length_le _ (by omega) (by omega)
  · by_cases h2 : n < 0
    · obtain ⟨u, rfl⟩ : ∃ u : Nat, n = -(u : Int) := ⟨n.natAbs, by omega⟩
      have := (ndT_le T u (by omega) (by omega)).1
      rw [itoaT_neg T u (by omega), List.length_cons, Array.length_toList, rowT_size]
      omega
    · obtain ⟨u, rfl⟩ : ∃ u : Nat, n = u := ⟨n.toNat, by omega⟩
      have := (ndT_le T u (by omega) (by omega)).1
      rw [itoaT_pos T u (by omega), Array.length_toList, rowT_size]
      omega
/-- The text of an Errno. -/
def errnoS (T : Nat → Int) (n : Int) : ByteArray := (⟨#[101, 114, 114, 111, 114, 32]⟩ : ByteArray) ++ ⟨(itoaT T n).toArray⟩
set_option maxRecDepth 100000 in
theorem errnoText (T : Nat → Int) (n : Int) (h : I64 n) (w : World) (ht : TabT T w) :
    Calls Tryd.prog 57 #[.int .i64 n] w fun e w' => e = .returned (.string (errnoS T n)) ∧ Below w.heap.size w w' := by
  have hf := itoaI T n h w ht
  have hs := itoaT_len T n h
  unfold errnoS
  generalize (⟨(itoaT T n).toArray⟩ : ByteArray) = s at hf hs ⊢
  clear ht h
  go_enter Tryd.func57, Tryd.ntmps57
  go_wp2_with (go_at_call 58; refine hf.mono ?_; rintro e w' ⟨rfl, hb⟩)
  go_ret
  exact ⟨rfl, hb⟩
theorem errnoS_len (T : Nat → Int) (n : Int) (h : I64 n) : (errnoS T n).size ≤ 27 := by
  have := itoaT_len T n h
  unfold errnoS
  rw [ByteArray.size_append]
  have e : (⟨#[101, 114, 114, 111, 114, 32]⟩ : ByteArray).size = 6 := rfl
  omega
/-- The text of a fault. -/
def faultS (T : Nat → Int) (n k m : Int) : ByteArray := (((errnoS T n ++ ⟨#[32, 111, 102, 32]⟩) ++ ⟨(itoaT T k).toArray⟩) ++ ⟨#[58, 32]⟩) ++ ⟨(itoaT T m).toArray⟩
theorem cat_run {P : Program} (a b : ByteArray) (w : World) (h : a.size + b.size ≤ 9223372036854775807) : (Op.stringOp .add a b).run P w = .ok (.string (a ++ b)) w := by
  have h' : ¬ 9223372036854775807 < a.size + b.size := by omega
  simp [go_sem, h']
/-- What stands while the text is made. -/
structure Held (w w' : World) : Prop where
  below : Below w.heap.size w w'
set_option maxHeartbeats 2000000 in
set_option maxRecDepth 100000 in
theorem faultText (T : Nat → Int) (b : Nat) (n k m : Int) (hn : I64 n) (hk : I64 k) (hm : I64 m) (w : World) (ht : TabT T w) (c0 : w.cell? ⟨b, 0, none⟩ = some (.int .i64 n)) (c1 : w.cell? ⟨b, 1, none⟩ = some (.int .i64 k)) (c2 : w.cell? ⟨b, 2, none⟩ = some (.int .i64 m)) :
    Calls Tryd.prog 72 #[.pointer (some ⟨b, 0, none⟩)] w fun e w' => e = .returned (.string (faultS T n k m)) ∧ Below w.heap.size w w' := by
  have hf0 := fun w' (hb : Below w.heap.size w w') => errnoText T n hn w' (ht.kept hb)
  have hf1 := fun w' (hb : Below w.heap.size w w') => itoaI T k hk w' (ht.kept hb)
  have hf2 := fun w' (hb : Below w.heap.size w w') => itoaI T m hm w' (ht.kept hb)
  have hbl := World.block_lt_of_cell? w _ c0
  have hcc : ∀ w', Below w.heap.size w w' → w'.cell? ⟨b, 0, none⟩ = some (.int .i64 n) ∧ w'.cell? ⟨b, 1, none⟩ = some (.int .i64 k) ∧ w'.cell? ⟨b, 2, none⟩ = some (.int .i64 m) := fun w' hb => by
    have hblk := hb.block b hbl
    refine ⟨?_, ?_, ?_⟩
    · rw [World.cell?_of_block (w := w) hblk]; exact c0
    · rw [World.cell?_of_block (w := w) hblk]; exact c1
    · rw [World.cell?_of_block (w := w) hblk]; exact c2
  have s0 := errnoS_len T n hn
  have s1 := itoaT_len T k hk
  have s2 := itoaT_len T m hm
  unfold faultS
  generalize (⟨(itoaT T k).toArray⟩ : ByteArray) = sk at hf1 s1 ⊢
  generalize (⟨(itoaT T m).toArray⟩ : ByteArray) = sm at hf2 s2 ⊢
  generalize errnoS T n = sn at hf0 s0 ⊢
  have H0 := Lib.hid hf0
  have H1 := Lib.hid hf1
  have H2 := Lib.hid hf2
  have HC := Lib.hid hcc
  have B0 : Held w w := ⟨Below.refl _ _⟩
  have HX : Hid (∀ W, (Held w W ∧ W.cell? ⟨b, 0, none⟩ = some (.int .i64 n) ∧ W.cell? ⟨b, 1, none⟩ = some (.int .i64 k) ∧ W.cell? ⟨b, 2, none⟩ = some (.int .i64 m)) → Below w.heap.size w W) := Lib.hid fun W h => h.1.below
  have HK : Hid (∀ w1 w2, Below w1.heap.size w1 w2 → (Held w w1 ∧ w1.cell? ⟨b, 0, none⟩ = some (.int .i64 n) ∧ w1.cell? ⟨b, 1, none⟩ = some (.int .i64 k) ∧ w1.cell? ⟨b, 2, none⟩ = some (.int .i64 m)) → (Held w w2 ∧ w2.cell? ⟨b, 0, none⟩ = some (.int .i64 n) ∧ w2.cell? ⟨b, 1, none⟩ = some (.int .i64 k) ∧ w2.cell? ⟨b, 2, none⟩ = some (.int .i64 m))) := Lib.hid fun w1 w2 h2 h1 => ⟨⟨h1.1.below.trans (h2.mono h1.1.below.size)⟩, HC.out _ (h1.1.below.trans (h2.mono h1.1.below.size))⟩
  have HB : Hid (Held w w.drew ∧ w.drew.cell? ⟨b, 0, none⟩ = some (.int .i64 n) ∧ w.drew.cell? ⟨b, 1, none⟩ = some (.int .i64 k) ∧ w.drew.cell? ⟨b, 2, none⟩ = some (.int .i64 m)) := Lib.hid (HK.out _ _ ((Below.refl _ _).drew) ⟨B0, c0, c1, c2⟩)
  clear hf0 hf1 hf2 hcc hn hk hm ht
  have q0 : (sn ++ ⟨#[32, 111, 102, 32]⟩).size = sn.size + 4 := by rw [ByteArray.size_append]; rfl
  have q1 : (sn ++ ⟨#[32, 111, 102, 32]⟩ ++ sk).size = sn.size + 4 + sk.size := by rw [ByteArray.size_append, q0]
  have q2 : (sn ++ ⟨#[32, 111, 102, 32]⟩ ++ sk ++ ⟨#[58, 32]⟩).size = sn.size + 4 + sk.size + 2 := by rw [ByteArray.size_append, q1]; rfl
  have a1 : ∀ W, (Op.stringOp .add sn ⟨#[32, 111, 102, 32]⟩).run Tryd.prog W = .ok (.string (sn ++ ⟨#[32, 111, 102, 32]⟩)) W := fun W => cat_run _ _ W (by rw [show (⟨#[32, 111, 102, 32]⟩ : ByteArray).size = 4 from rfl]; omega)
  have a2 : ∀ W, (Op.stringOp .add (sn ++ ⟨#[32, 111, 102, 32]⟩) sk).run Tryd.prog W = .ok (.string (sn ++ ⟨#[32, 111, 102, 32]⟩ ++ sk)) W := fun W => cat_run _ _ W (by omega)
  have a3 : ∀ W, (Op.stringOp .add (sn ++ ⟨#[32, 111, 102, 32]⟩ ++ sk) ⟨#[58, 32]⟩).run Tryd.prog W = .ok (.string (sn ++ ⟨#[32, 111, 102, 32]⟩ ++ sk ++ ⟨#[58, 32]⟩)) W := fun W => cat_run _ _ W (by rw [show (⟨#[58, 32]⟩ : ByteArray).size = 2 from rfl]; omega)
  have a4 : ∀ W, (Op.stringOp .add (sn ++ ⟨#[32, 111, 102, 32]⟩ ++ sk ++ ⟨#[58, 32]⟩) sm).run Tryd.prog W = .ok (.string (sn ++ ⟨#[32, 111, 102, 32]⟩ ++ sk ++ ⟨#[58, 32]⟩ ++ sm)) W := fun W => cat_run _ _ W (by omega)
  clear q0 q1 q2
  have c0' : w.cell? (Addr.add ⟨b, 0, none⟩ 0) = some (.int .i64 n) := c0
  go_enter Tryd.func72, Tryd.ntmps72
  go_wp2
  go_region_held3 (fun w' => Held w w' ∧ w'.cell? ⟨b, 0, none⟩ = some (.int .i64 n) ∧ w'.cell? ⟨b, 1, none⟩ = some (.int .i64 k) ∧ w'.cell? ⟨b, 2, none⟩ = some (.int .i64 m)) ((first | (exact HB.out) | (exact HK.out _ _ (by assumption) (by assumption))))
    (first | (go_at_call 57; refine (H0.out _ ?_).mono ?_; (exact HX.out _ (by assumption)); rintro e w' ⟨rfl, hb⟩) | (go_at_call 58; refine (H1.out _ ?_).mono ?_; (exact HX.out _ (by assumption)); rintro e w' ⟨rfl, hb⟩) | (go_at_call 58; refine (H2.out _ ?_).mono ?_; (exact HX.out _ (by assumption)); rintro e w' ⟨rfl, hb⟩))
  all_goals (try go_wp2)
  all_goals
    go_ret
    exact ⟨rfl, HX.out _ (by assumption)⟩
end Go.Proofs.YtlnekfodkeifkaaDoor.T

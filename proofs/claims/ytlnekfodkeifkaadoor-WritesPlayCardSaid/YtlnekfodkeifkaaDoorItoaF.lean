/- internal/strconv.formatBase10, at a row of whatever length and whatever number: what it writes is a function of the two. No conditions but that the row is known, and short. -/
import Derived.Test.YtlnekfodkeifkaaDoorProg
import Derived.WalkKit
import Derived.Lib.ItoaWalk
import Derived.RegionTactic
import Derived.LoopTactic
import Derived.BigCall
import Derived.BigGuard
import Derived.CellFam
import Derived.Outline
namespace Go.Proofs.YtlnekfodkeifkaaDoor.T
open Go.RowKit Go.Sort Go.Lib
set_option linter.unusedSimpArgs false
set_option linter.unusedVariables false

/-- Two digits are written at place i. -/
def st2 (d : Array UInt8) (i v : Nat) : Array UInt8 := (d.setIfInBounds (i + 1) (sm (v % 100 * 2 + 1))).setIfInBounds i (sm (v % 100 * 2))
theorem st2_size (d : Array UInt8) (i v : Nat) : (st2 d i v).size = d.size := by simp [st2]
def st1 (d : Array UInt8) (x : Nat) : Array UInt8 := d.setIfInBounds 0 (UInt8.ofNat (48 + x))
theorem st1_size (d : Array UInt8) (x : Nat) : (st1 d x).size = d.size := by simp [st1]
/-- The last places: fewer than eight. -/
def fbT (r x : Nat) (d : Array UInt8) : Array UInt8 :=
  match r with
  | 1 => st1 d x
  | 2 => st2 d 0 x
  | 3 => st1 (st2 d 1 x) (x / 100)
  | 4 => st2 (st2 d 2 x) 0 (x / 100)
  | 5 => st1 (st2 (st2 d 3 x) 1 (x / 100)) (x / 100 / 100)
  | 6 => st2 (st2 (st2 d 4 x) 2 (x / 100)) 0 (x / 100 / 100)
  | 7 => st1 (st2 (st2 (st2 d 5 x) 3 (x / 100)) 1 (x / 100 / 100)) (x / 100 / 100 / 100)
  | _ => d
/-- Eight places at a time. -/
def fbL (r : Nat) : Nat → Nat → Array UInt8 → Array UInt8
  | 0, v, d => fbT r (v % 4294967296) d
  | q + 1, v, d => fbL r q (v / 100000000) (st2 (st2 (st2 (st2 d (8 * q + r + 6) v) (8 * q + r + 4) (v / 100)) (8 * q + r + 2) (v / 100 / 100)) (8 * q + r) (v / 100 / 100 / 100))
theorem fbT_size (r x : Nat) (d : Array UInt8) : (fbT r x d).size = d.size := by
  unfold fbT
  split <;> simp [st2_size, st1_size]
theorem fbL_size (r : Nat) : ∀ (q v : Nat) (d : Array UInt8), (fbL r q v d).size = d.size := by
  intro q
  induction q with
  | zero => intro v d; exact fbT_size _ _ _
  | succ q ih => intro v d; rw [fbL, ih]; simp [st2_size]
/-- What formatBase10 writes. -/
def fb (u : Nat) (d : Array UInt8) : Array UInt8 := fbL (d.size % 8) (d.size / 8) u d
/-- What stands at each round. -/
structure FbSt (u : Nat) (d : Array UInt8) (m v : Nat) (dk : Array UInt8) : Prop where
  size : dk.size = d.size
  le : m ≤ d.size
  v64 : v < 18446744073709551616
  eq : ∃ q, m = 8 * q + d.size % 8 ∧ fbL (d.size % 8) q v dk = fb u d
theorem FbSt.start (u : Nat) (d : Array UInt8) (hu : u < 18446744073709551616) : FbSt u d d.size u d := ⟨rfl, Nat.le_refl _, hu, d.size / 8, by omega, rfl⟩
theorem FbSt.step {u : Nat} {d : Array UInt8} {m v : Nat} {dk : Array UInt8} (h : FbSt u d (m + 8) v dk) : FbSt u d m (v / 100000000) (st2 (st2 (st2 (st2 dk (m + 6) v) (m + 4) (v / 100)) (m + 2) (v / 100 / 100)) m (v / 100 / 100 / 100)) := by
  obtain ⟨h1, h2, h3, q, h4, h5⟩ := h
  obtain ⟨q, rfl⟩ : ∃ p, q = p + 1 := ⟨q - 1, by omega⟩
  have hm : m = 8 * q + d.size % 8 := by omega
  refine ⟨by simp [st2_size, h1], by omega, by omega, q, hm, ?_⟩
  rw [fbL, ← hm] at h5
  exact h5
theorem FbSt.last {u : Nat} {d : Array UInt8} {m v : Nat} {dk : Array UInt8} (h : FbSt u d m v dk) (hm : m < 8) : fbT m (v % 4294967296) dk = fb u d := by
  obtain ⟨h1, h2, h3, q, h4, h5⟩ := h
  obtain rfl : q = 0 := by omega
  rw [Nat.mul_zero, Nat.zero_add] at h4
  rw [h4]
  exact h5
set_option maxHeartbeats 12800000 in
set_option maxRecDepth 100000 in
theorem fb_any (blk off cap : Nat) (u : Nat) (d : Array UInt8) (w : World) (hH : Holds (fun (b : UInt8) => Value.int .u8 (b.toNat : Int)) w blk off d) (hu64 : u < 18446744073709551616) (hsz : d.size < 4611686018427387904) :
    Calls Tryd.prog 63 #[.slice (some ⟨blk, off, none⟩) d.size cap, .int .u64 u] w fun e w' =>
      e = .returned (.tuple #[]) ∧ ∃ n, w' = (putRow (fun (b : UInt8) => Value.int .u8 (b.toNat : Int)) w blk off (fb u d)).drewN n := by
  go_enter Tryd.func63, Tryd.ntmps63
  go_name_bytes SM hSM
  have eSM : SM = Lib.smalls := by rw [← hSM]; decide +kernel
  subst eSM
  clear hSM
  go_wp2
  go_loopw [1, 4] (fun vu vn wr => ∃ (m v n : Nat) (dk : Array UInt8), vu = .int .u64 v ∧ vn = .int .i64 m ∧ wr = (putRow (fun (b : UInt8) => Value.int .u8 (b.toNat : Int)) w blk off dk).drewN n ∧ FbSt u d m v dk) (fun _ vn _ => (RowKit.intOf vn).toNat)
  case atStart => exact ⟨d.size, u, 0, d, rfl, rfl, (putRow_self _ _ _ _ _ hH).symm, FbSt.start u d hu64⟩
  case round =>
    obtain ⟨nd, v, n, dk0, rfl, rfl, hw0, hst⟩ := hrel
    have HI0 := Lib.hid hst
    clear hst
    rename World => W0
    have AH := Lib.hid hH
    clear hH
    have hv64 : v < 18446744073709551616 := HI0.out.v64
    have hs0 := HI0.out.size
    have hle := HI0.out.le
    have hH0 : Holds (fun (b : UInt8) => Value.int .u8 (b.toNat : Int)) W0 blk off dk0 := by rw [hw0]; exact holds_putRow _ w blk off d dk0 AH.out hs0
    obtain ⟨G0, hG0⟩ : ∃ G : Nat → Int, ∀ t, G t = (dk0[t]!.toNat : Int) := ⟨_, fun _ => rfl⟩
    have hc0 : ∀ t, t < d.size → W0.cell? ⟨blk, off + t, none⟩ = some (.int .u8 (G0 t)) := fun t ht => by rw [hG0]; exact (hH0 t (by omega)).1
    have hf0 : ∀ t, t < d.size → W0.frozen? ⟨blk, off + t, none⟩ = false := fun t ht => (hH0 t (by omega)).2
    have AW0 := Lib.hid hw0
    clear hw0 hG0 hH0
    by_cases h8 : 8 ≤ nd
    · obtain ⟨m, rfl⟩ : ∃ m, nd = m + 8 := ⟨nd - 8, by omega⟩
      go_wp2
      go_name_slot 9 x0 hx0
      have hxe0 : x0 = ((v % 100 * 2 : Nat) : Int) := by omega
      have hXa0 : ∀ w, (Instr.index 9 (.string Lib.smalls) (.int .u32 (x0 + 1))).run Tryd.prog w = .ok (.int .u8 ((sm (v % 100 * 2 + 1)).toNat : Int)) w := idx_smalls 9 Tryd.underlying9 .u32 _ _ (by omega) (by omega)
      have hXb0 : ∀ w, (Instr.index 9 (.string Lib.smalls) (.int .u32 x0)).run Tryd.prog w = .ok (.int .u8 ((sm (v % 100 * 2)).toNat : Int)) w := idx_smalls 9 Tryd.underlying9 .u32 _ _ (by omega) (by omega)
      have hlo0 : 0 ≤ x0 := by omega
      have hhi0 : x0 ≤ 198 := by omega
      clear hx0 hxe0
      go_region
      go_wp2
      go_name_world W1 hW1
      have hw1 : W1 = (putRow (fun (b : UInt8) => Value.int .u8 (b.toNat : Int)) w blk off (st2 dk0 (m + 6) (v))).drewN (n + 0 + 1) := by rw [← hW1]; exact (by rw [AW0.out]; exact store2_world w blk off dk0 (n + 0) (m + 6 + 1) (m + 6) _ _ (by omega) (by omega))
      have hs1 : (st2 dk0 (m + 6) (v)).size = d.size := by rw [st2_size]; exact hs0
      obtain ⟨dk1, hdk1⟩ : ∃ dk1, st2 dk0 (m + 6) (v) = dk1 := ⟨_, rfl⟩
      rw [hdk1] at hw1 hs1
      have DK1 := Lib.hid hdk1
      clear hdk1 hW1 hc0 hf0 AW0 hXa0 hXb0 hs0
      have hH1 : Holds (fun (b : UInt8) => Value.int .u8 (b.toNat : Int)) W1 blk off dk1 := by rw [hw1]; exact holds_putRow _ w blk off d dk1 AH.out hs1
      obtain ⟨G1, hG1⟩ : ∃ G : Nat → Int, ∀ t, G t = (dk1[t]!.toNat : Int) := ⟨_, fun _ => rfl⟩
      have hc1 : ∀ t, t < d.size → W1.cell? ⟨blk, off + t, none⟩ = some (.int .u8 (G1 t)) := fun t ht => by rw [hG1]; exact (hH1 t (by omega)).1
      have hf1 : ∀ t, t < d.size → W1.frozen? ⟨blk, off + t, none⟩ = false := fun t ht => (hH1 t (by omega)).2
      have AW1 := Lib.hid hw1
      clear hw1 hG1 hH1
      go_name_slot 8 x1 hx1
      have hxe1 : x1 = ((v / 100 % 100 * 2 : Nat) : Int) := by omega
      have hXa1 : ∀ w, (Instr.index 9 (.string Lib.smalls) (.int .u32 (x1 + 1))).run Tryd.prog w = .ok (.int .u8 ((sm (v / 100 % 100 * 2 + 1)).toNat : Int)) w := idx_smalls 9 Tryd.underlying9 .u32 _ _ (by omega) (by omega)
      have hXb1 : ∀ w, (Instr.index 9 (.string Lib.smalls) (.int .u32 x1)).run Tryd.prog w = .ok (.int .u8 ((sm (v / 100 % 100 * 2)).toNat : Int)) w := idx_smalls 9 Tryd.underlying9 .u32 _ _ (by omega) (by omega)
      have hlo1 : 0 ≤ x1 := by omega
      have hhi1 : x1 ≤ 198 := by omega
      clear hx1 hxe1
      go_region
      go_wp2
      go_name_world W2 hW2
      have hw2 : W2 = (putRow (fun (b : UInt8) => Value.int .u8 (b.toNat : Int)) w blk off (st2 dk1 (m + 4) (v / 100))).drewN (n + 1 + 1) := by rw [← hW2]; exact (by rw [AW1.out]; exact store2_world w blk off dk1 (n + 1) (m + 4 + 1) (m + 4) _ _ (by omega) (by omega))
      have hs2 : (st2 dk1 (m + 4) (v / 100)).size = d.size := by rw [st2_size]; exact hs1
      obtain ⟨dk2, hdk2⟩ : ∃ dk2, st2 dk1 (m + 4) (v / 100) = dk2 := ⟨_, rfl⟩
      rw [hdk2] at hw2 hs2
      have DK2 := Lib.hid hdk2
      clear hdk2 hW2 hc1 hf1 AW1 hXa1 hXb1 hs1
      have hH2 : Holds (fun (b : UInt8) => Value.int .u8 (b.toNat : Int)) W2 blk off dk2 := by rw [hw2]; exact holds_putRow _ w blk off d dk2 AH.out hs2
      obtain ⟨G2, hG2⟩ : ∃ G : Nat → Int, ∀ t, G t = (dk2[t]!.toNat : Int) := ⟨_, fun _ => rfl⟩
      have hc2 : ∀ t, t < d.size → W2.cell? ⟨blk, off + t, none⟩ = some (.int .u8 (G2 t)) := fun t ht => by rw [hG2]; exact (hH2 t (by omega)).1
      have hf2 : ∀ t, t < d.size → W2.frozen? ⟨blk, off + t, none⟩ = false := fun t ht => (hH2 t (by omega)).2
      have AW2 := Lib.hid hw2
      clear hw2 hG2 hH2
      go_name_slot 11 x2 hx2
      have hxe2 : x2 = ((v / 100 / 100 % 100 * 2 : Nat) : Int) := by omega
      have hXa2 : ∀ w, (Instr.index 9 (.string Lib.smalls) (.int .u32 (x2 + 1))).run Tryd.prog w = .ok (.int .u8 ((sm (v / 100 / 100 % 100 * 2 + 1)).toNat : Int)) w := idx_smalls 9 Tryd.underlying9 .u32 _ _ (by omega) (by omega)
      have hXb2 : ∀ w, (Instr.index 9 (.string Lib.smalls) (.int .u32 x2)).run Tryd.prog w = .ok (.int .u8 ((sm (v / 100 / 100 % 100 * 2)).toNat : Int)) w := idx_smalls 9 Tryd.underlying9 .u32 _ _ (by omega) (by omega)
      have hlo2 : 0 ≤ x2 := by omega
      have hhi2 : x2 ≤ 198 := by omega
      clear hx2 hxe2
      go_region
      go_wp2
      go_name_world W3 hW3
      have hw3 : W3 = (putRow (fun (b : UInt8) => Value.int .u8 (b.toNat : Int)) w blk off (st2 dk2 (m + 2) (v / 100 / 100))).drewN (n + 2 + 1) := by rw [← hW3]; exact (by rw [AW2.out]; exact store2_world w blk off dk2 (n + 2) (m + 2 + 1) (m + 2) _ _ (by omega) (by omega))
      have hs3 : (st2 dk2 (m + 2) (v / 100 / 100)).size = d.size := by rw [st2_size]; exact hs2
      obtain ⟨dk3, hdk3⟩ : ∃ dk3, st2 dk2 (m + 2) (v / 100 / 100) = dk3 := ⟨_, rfl⟩
      rw [hdk3] at hw3 hs3
      have DK3 := Lib.hid hdk3
      clear hdk3 hW3 hc2 hf2 AW2 hXa2 hXb2 hs2
      have hH3 : Holds (fun (b : UInt8) => Value.int .u8 (b.toNat : Int)) W3 blk off dk3 := by rw [hw3]; exact holds_putRow _ w blk off d dk3 AH.out hs3
      obtain ⟨G3, hG3⟩ : ∃ G : Nat → Int, ∀ t, G t = (dk3[t]!.toNat : Int) := ⟨_, fun _ => rfl⟩
      have hc3 : ∀ t, t < d.size → W3.cell? ⟨blk, off + t, none⟩ = some (.int .u8 (G3 t)) := fun t ht => by rw [hG3]; exact (hH3 t (by omega)).1
      have hf3 : ∀ t, t < d.size → W3.frozen? ⟨blk, off + t, none⟩ = false := fun t ht => (hH3 t (by omega)).2
      have AW3 := Lib.hid hw3
      clear hw3 hG3 hH3
      go_name_slot 10 x3 hx3
      have hxe3 : x3 = ((v / 100 / 100 / 100 % 100 * 2 : Nat) : Int) := by omega
      have hXa3 : ∀ w, (Instr.index 9 (.string Lib.smalls) (.int .u32 (x3 + 1))).run Tryd.prog w = .ok (.int .u8 ((sm (v / 100 / 100 / 100 % 100 * 2 + 1)).toNat : Int)) w := idx_smalls 9 Tryd.underlying9 .u32 _ _ (by omega) (by omega)
      have hXb3 : ∀ w, (Instr.index 9 (.string Lib.smalls) (.int .u32 x3)).run Tryd.prog w = .ok (.int .u8 ((sm (v / 100 / 100 / 100 % 100 * 2)).toNat : Int)) w := idx_smalls 9 Tryd.underlying9 .u32 _ _ (by omega) (by omega)
      have hlo3 : 0 ≤ x3 := by omega
      have hhi3 : x3 ≤ 198 := by omega
      clear hx3 hxe3
      go_region
      go_wp2
      go_roundw
      case rel =>
        refine ⟨m, v / 100000000, n + 3 + 1, st2 dk3 m (v / 100 / 100 / 100), by first | go_num | (congr 1; omega), by first | go_num | (congr 1; omega), by rw [AW3.out]; exact store2_world w blk off dk3 (n + 3) (m + 1) m _ _ (by omega) (by omega), ?_⟩
        have h := HI0.out.step
        rw [DK1.out, DK2.out, DK3.out] at h
        exact h
      case measure => simp [RowKit.intOf]; omega
    · have hc8 : nd = 0 ∨ nd = 1 ∨ nd = 2 ∨ nd = 3 ∨ nd = 4 ∨ nd = 5 ∨ nd = 6 ∨ nd = 7 := by omega
      obtain ⟨x, hx⟩ : ∃ x, v % 4294967296 = x := ⟨_, rfl⟩
      have hxlt : x < 4294967296 := by omega
      have hcv : IntKind.u32.wrap (v : Int) = (x : Int) := by rw [← hx, IntKind.wrap_u32]; omega
      have HX := Lib.hid hx
      clear hx
      rcases hc8 with rfl | rfl | rfl | rfl | rfl | rfl | rfl | rfl
      · go_wp2
        go_end0
        have h := HI0.out.last (by omega)
        rw [HX.out] at h
        exact ⟨rfl, n, by rw [AW0.out, ← h]; rfl⟩
      · go_wp2
        go_end0
        have h := HI0.out.last (by omega)
        rw [HX.out] at h
        exact ⟨rfl, n, by rw [AW0.out, ← h]; exact store1_world0 w blk off dk0 n _ x (by omega) (by omega)⟩
      · go_wp2
        go_name_slot 16 x0 hx0
        have hxe0 : x0 = ((x % 100 * 2 : Nat) : Int) := by omega
        have hXa0 : ∀ w, (Instr.index 9 (.string Lib.smalls) (.int .u32 (x0 + 1))).run Tryd.prog w = .ok (.int .u8 ((sm (x % 100 * 2 + 1)).toNat : Int)) w := idx_smalls 9 Tryd.underlying9 .u32 _ _ (by omega) (by omega)
        have hXb0 : ∀ w, (Instr.index 9 (.string Lib.smalls) (.int .u32 x0)).run Tryd.prog w = .ok (.int .u8 ((sm (x % 100 * 2)).toNat : Int)) w := idx_smalls 9 Tryd.underlying9 .u32 _ _ (by omega) (by omega)
        have hlo0 : 0 ≤ x0 := by omega
        have hhi0 : x0 ≤ 198 := by omega
        clear hx0 hxe0
        go_region
        go_wp2
        go_end0
        have h := HI0.out.last (by omega)
        rw [HX.out] at h
        simp only [fbT] at h
        exact ⟨rfl, n + 0 + 1, by rw [AW0.out, ← h]; exact store2_world w blk off dk0 (n + 0) (0 + 1) 0 _ _ (by omega) (by omega)⟩
      · go_wp2
        go_name_slot 16 x0 hx0
        have hxe0 : x0 = ((x % 100 * 2 : Nat) : Int) := by omega
        have hXa0 : ∀ w, (Instr.index 9 (.string Lib.smalls) (.int .u32 (x0 + 1))).run Tryd.prog w = .ok (.int .u8 ((sm (x % 100 * 2 + 1)).toNat : Int)) w := idx_smalls 9 Tryd.underlying9 .u32 _ _ (by omega) (by omega)
        have hXb0 : ∀ w, (Instr.index 9 (.string Lib.smalls) (.int .u32 x0)).run Tryd.prog w = .ok (.int .u8 ((sm (x % 100 * 2)).toNat : Int)) w := idx_smalls 9 Tryd.underlying9 .u32 _ _ (by omega) (by omega)
        have hlo0 : 0 ≤ x0 := by omega
        have hhi0 : x0 ≤ 198 := by omega
        clear hx0 hxe0
        go_region
        go_wp2
        go_end0
        have h := HI0.out.last (by omega)
        rw [HX.out] at h
        simp only [fbT] at h
        exact ⟨rfl, n + 0 + 1, by rw [AW0.out, ← h]; exact store21_world w blk off dk0 (n + 0) (1 + 1) 1 _ _ _ (x / 100) (by omega) (by omega) (by omega)⟩
      · go_wp2
        go_name_slot 15 x0 hx0
        have hxe0 : x0 = ((x % 100 * 2 : Nat) : Int) := by omega
        have hXa0 : ∀ w, (Instr.index 9 (.string Lib.smalls) (.int .u32 (x0 + 1))).run Tryd.prog w = .ok (.int .u8 ((sm (x % 100 * 2 + 1)).toNat : Int)) w := idx_smalls 9 Tryd.underlying9 .u32 _ _ (by omega) (by omega)
        have hXb0 : ∀ w, (Instr.index 9 (.string Lib.smalls) (.int .u32 x0)).run Tryd.prog w = .ok (.int .u8 ((sm (x % 100 * 2)).toNat : Int)) w := idx_smalls 9 Tryd.underlying9 .u32 _ _ (by omega) (by omega)
        have hlo0 : 0 ≤ x0 := by omega
        have hhi0 : x0 ≤ 198 := by omega
        clear hx0 hxe0
        go_region
        go_wp2
        go_name_world W1 hW1
        have hw1 : W1 = (putRow (fun (b : UInt8) => Value.int .u8 (b.toNat : Int)) w blk off (st2 dk0 (2) (x))).drewN (n + 0 + 1) := by rw [← hW1]; exact (by rw [AW0.out]; exact store2_world w blk off dk0 (n + 0) (2 + 1) (2) _ _ (by omega) (by omega))
        have hs1 : (st2 dk0 (2) (x)).size = d.size := by rw [st2_size]; exact hs0
        obtain ⟨dk1, hdk1⟩ : ∃ dk1, st2 dk0 (2) (x) = dk1 := ⟨_, rfl⟩
        rw [hdk1] at hw1 hs1
        have DK1 := Lib.hid hdk1
        clear hdk1 hW1 hc0 hf0 AW0 hXa0 hXb0 hs0
        have hH1 : Holds (fun (b : UInt8) => Value.int .u8 (b.toNat : Int)) W1 blk off dk1 := by rw [hw1]; exact holds_putRow _ w blk off d dk1 AH.out hs1
        obtain ⟨G1, hG1⟩ : ∃ G : Nat → Int, ∀ t, G t = (dk1[t]!.toNat : Int) := ⟨_, fun _ => rfl⟩
        have hc1 : ∀ t, t < d.size → W1.cell? ⟨blk, off + t, none⟩ = some (.int .u8 (G1 t)) := fun t ht => by rw [hG1]; exact (hH1 t (by omega)).1
        have hf1 : ∀ t, t < d.size → W1.frozen? ⟨blk, off + t, none⟩ = false := fun t ht => (hH1 t (by omega)).2
        have AW1 := Lib.hid hw1
        clear hw1 hG1 hH1
        go_name_slot 14 x1 hx1
        have hxe1 : x1 = ((x / 100 % 100 * 2 : Nat) : Int) := by omega
        have hXa1 : ∀ w, (Instr.index 9 (.string Lib.smalls) (.int .u32 (x1 + 1))).run Tryd.prog w = .ok (.int .u8 ((sm (x / 100 % 100 * 2 + 1)).toNat : Int)) w := idx_smalls 9 Tryd.underlying9 .u32 _ _ (by omega) (by omega)
        have hXb1 : ∀ w, (Instr.index 9 (.string Lib.smalls) (.int .u32 x1)).run Tryd.prog w = .ok (.int .u8 ((sm (x / 100 % 100 * 2)).toNat : Int)) w := idx_smalls 9 Tryd.underlying9 .u32 _ _ (by omega) (by omega)
        have hlo1 : 0 ≤ x1 := by omega
        have hhi1 : x1 ≤ 198 := by omega
        clear hx1 hxe1
        go_region
        go_wp2
        go_end0
        have h := HI0.out.last (by omega)
        rw [HX.out] at h
        simp only [fbT] at h
        rw [DK1.out] at h
        exact ⟨rfl, n + 1 + 1, by rw [AW1.out, ← h]; exact store2_world w blk off dk1 (n + 1) (0 + 1) 0 _ _ (by omega) (by omega)⟩
      · go_wp2
        go_name_slot 15 x0 hx0
        have hxe0 : x0 = ((x % 100 * 2 : Nat) : Int) := by omega
        have hXa0 : ∀ w, (Instr.index 9 (.string Lib.smalls) (.int .u32 (x0 + 1))).run Tryd.prog w = .ok (.int .u8 ((sm (x % 100 * 2 + 1)).toNat : Int)) w := idx_smalls 9 Tryd.underlying9 .u32 _ _ (by omega) (by omega)
        have hXb0 : ∀ w, (Instr.index 9 (.string Lib.smalls) (.int .u32 x0)).run Tryd.prog w = .ok (.int .u8 ((sm (x % 100 * 2)).toNat : Int)) w := idx_smalls 9 Tryd.underlying9 .u32 _ _ (by omega) (by omega)
        have hlo0 : 0 ≤ x0 := by omega
        have hhi0 : x0 ≤ 198 := by omega
        clear hx0 hxe0
        go_region
        go_wp2
        go_name_world W1 hW1
        have hw1 : W1 = (putRow (fun (b : UInt8) => Value.int .u8 (b.toNat : Int)) w blk off (st2 dk0 (3) (x))).drewN (n + 0 + 1) := by rw [← hW1]; exact (by rw [AW0.out]; exact store2_world w blk off dk0 (n + 0) (3 + 1) (3) _ _ (by omega) (by omega))
        have hs1 : (st2 dk0 (3) (x)).size = d.size := by rw [st2_size]; exact hs0
        obtain ⟨dk1, hdk1⟩ : ∃ dk1, st2 dk0 (3) (x) = dk1 := ⟨_, rfl⟩
        rw [hdk1] at hw1 hs1
        have DK1 := Lib.hid hdk1
        clear hdk1 hW1 hc0 hf0 AW0 hXa0 hXb0 hs0
        have hH1 : Holds (fun (b : UInt8) => Value.int .u8 (b.toNat : Int)) W1 blk off dk1 := by rw [hw1]; exact holds_putRow _ w blk off d dk1 AH.out hs1
        obtain ⟨G1, hG1⟩ : ∃ G : Nat → Int, ∀ t, G t = (dk1[t]!.toNat : Int) := ⟨_, fun _ => rfl⟩
        have hc1 : ∀ t, t < d.size → W1.cell? ⟨blk, off + t, none⟩ = some (.int .u8 (G1 t)) := fun t ht => by rw [hG1]; exact (hH1 t (by omega)).1
        have hf1 : ∀ t, t < d.size → W1.frozen? ⟨blk, off + t, none⟩ = false := fun t ht => (hH1 t (by omega)).2
        have AW1 := Lib.hid hw1
        clear hw1 hG1 hH1
        go_name_slot 14 x1 hx1
        have hxe1 : x1 = ((x / 100 % 100 * 2 : Nat) : Int) := by omega
        have hXa1 : ∀ w, (Instr.index 9 (.string Lib.smalls) (.int .u32 (x1 + 1))).run Tryd.prog w = .ok (.int .u8 ((sm (x / 100 % 100 * 2 + 1)).toNat : Int)) w := idx_smalls 9 Tryd.underlying9 .u32 _ _ (by omega) (by omega)
        have hXb1 : ∀ w, (Instr.index 9 (.string Lib.smalls) (.int .u32 x1)).run Tryd.prog w = .ok (.int .u8 ((sm (x / 100 % 100 * 2)).toNat : Int)) w := idx_smalls 9 Tryd.underlying9 .u32 _ _ (by omega) (by omega)
        have hlo1 : 0 ≤ x1 := by omega
        have hhi1 : x1 ≤ 198 := by omega
        clear hx1 hxe1
        go_region
        go_wp2
        go_end0
        have h := HI0.out.last (by omega)
        rw [HX.out] at h
        simp only [fbT] at h
        rw [DK1.out] at h
        exact ⟨rfl, n + 1 + 1, by rw [AW1.out, ← h]; exact store21_world w blk off dk1 (n + 1) (1 + 1) 1 _ _ _ (x / 100 / 100) (by omega) (by omega) (by omega)⟩
      · go_wp2
        go_name_slot 15 x0 hx0
        have hxe0 : x0 = ((x % 100 * 2 : Nat) : Int) := by omega
        have hXa0 : ∀ w, (Instr.index 9 (.string Lib.smalls) (.int .u32 (x0 + 1))).run Tryd.prog w = .ok (.int .u8 ((sm (x % 100 * 2 + 1)).toNat : Int)) w := idx_smalls 9 Tryd.underlying9 .u32 _ _ (by omega) (by omega)
        have hXb0 : ∀ w, (Instr.index 9 (.string Lib.smalls) (.int .u32 x0)).run Tryd.prog w = .ok (.int .u8 ((sm (x % 100 * 2)).toNat : Int)) w := idx_smalls 9 Tryd.underlying9 .u32 _ _ (by omega) (by omega)
        have hlo0 : 0 ≤ x0 := by omega
        have hhi0 : x0 ≤ 198 := by omega
        clear hx0 hxe0
        go_region
        go_wp2
        go_name_world W1 hW1
        have hw1 : W1 = (putRow (fun (b : UInt8) => Value.int .u8 (b.toNat : Int)) w blk off (st2 dk0 (4) (x))).drewN (n + 0 + 1) := by rw [← hW1]; exact (by rw [AW0.out]; exact store2_world w blk off dk0 (n + 0) (4 + 1) (4) _ _ (by omega) (by omega))
        have hs1 : (st2 dk0 (4) (x)).size = d.size := by rw [st2_size]; exact hs0
        obtain ⟨dk1, hdk1⟩ : ∃ dk1, st2 dk0 (4) (x) = dk1 := ⟨_, rfl⟩
        rw [hdk1] at hw1 hs1
        have DK1 := Lib.hid hdk1
        clear hdk1 hW1 hc0 hf0 AW0 hXa0 hXb0 hs0
        have hH1 : Holds (fun (b : UInt8) => Value.int .u8 (b.toNat : Int)) W1 blk off dk1 := by rw [hw1]; exact holds_putRow _ w blk off d dk1 AH.out hs1
        obtain ⟨G1, hG1⟩ : ∃ G : Nat → Int, ∀ t, G t = (dk1[t]!.toNat : Int) := ⟨_, fun _ => rfl⟩
        have hc1 : ∀ t, t < d.size → W1.cell? ⟨blk, off + t, none⟩ = some (.int .u8 (G1 t)) := fun t ht => by rw [hG1]; exact (hH1 t (by omega)).1
        have hf1 : ∀ t, t < d.size → W1.frozen? ⟨blk, off + t, none⟩ = false := fun t ht => (hH1 t (by omega)).2
        have AW1 := Lib.hid hw1
        clear hw1 hG1 hH1
        go_name_slot 14 x1 hx1
        have hxe1 : x1 = ((x / 100 % 100 * 2 : Nat) : Int) := by omega
        have hXa1 : ∀ w, (Instr.index 9 (.string Lib.smalls) (.int .u32 (x1 + 1))).run Tryd.prog w = .ok (.int .u8 ((sm (x / 100 % 100 * 2 + 1)).toNat : Int)) w := idx_smalls 9 Tryd.underlying9 .u32 _ _ (by omega) (by omega)
        have hXb1 : ∀ w, (Instr.index 9 (.string Lib.smalls) (.int .u32 x1)).run Tryd.prog w = .ok (.int .u8 ((sm (x / 100 % 100 * 2)).toNat : Int)) w := idx_smalls 9 Tryd.underlying9 .u32 _ _ (by omega) (by omega)
        have hlo1 : 0 ≤ x1 := by omega
        have hhi1 : x1 ≤ 198 := by omega
        clear hx1 hxe1
        go_region
        go_wp2
        go_name_world W2 hW2
        have hw2 : W2 = (putRow (fun (b : UInt8) => Value.int .u8 (b.toNat : Int)) w blk off (st2 dk1 (2) (x / 100))).drewN (n + 1 + 1) := by rw [← hW2]; exact (by rw [AW1.out]; exact store2_world w blk off dk1 (n + 1) (2 + 1) (2) _ _ (by omega) (by omega))
        have hs2 : (st2 dk1 (2) (x / 100)).size = d.size := by rw [st2_size]; exact hs1
        obtain ⟨dk2, hdk2⟩ : ∃ dk2, st2 dk1 (2) (x / 100) = dk2 := ⟨_, rfl⟩
        rw [hdk2] at hw2 hs2
        have DK2 := Lib.hid hdk2
        clear hdk2 hW2 hc1 hf1 AW1 hXa1 hXb1 hs1
        have hH2 : Holds (fun (b : UInt8) => Value.int .u8 (b.toNat : Int)) W2 blk off dk2 := by rw [hw2]; exact holds_putRow _ w blk off d dk2 AH.out hs2
        obtain ⟨G2, hG2⟩ : ∃ G : Nat → Int, ∀ t, G t = (dk2[t]!.toNat : Int) := ⟨_, fun _ => rfl⟩
        have hc2 : ∀ t, t < d.size → W2.cell? ⟨blk, off + t, none⟩ = some (.int .u8 (G2 t)) := fun t ht => by rw [hG2]; exact (hH2 t (by omega)).1
        have hf2 : ∀ t, t < d.size → W2.frozen? ⟨blk, off + t, none⟩ = false := fun t ht => (hH2 t (by omega)).2
        have AW2 := Lib.hid hw2
        clear hw2 hG2 hH2
        go_name_slot 16 x2 hx2
        have hxe2 : x2 = ((x / 100 / 100 % 100 * 2 : Nat) : Int) := by omega
        have hXa2 : ∀ w, (Instr.index 9 (.string Lib.smalls) (.int .u32 (x2 + 1))).run Tryd.prog w = .ok (.int .u8 ((sm (x / 100 / 100 % 100 * 2 + 1)).toNat : Int)) w := idx_smalls 9 Tryd.underlying9 .u32 _ _ (by omega) (by omega)
        have hXb2 : ∀ w, (Instr.index 9 (.string Lib.smalls) (.int .u32 x2)).run Tryd.prog w = .ok (.int .u8 ((sm (x / 100 / 100 % 100 * 2)).toNat : Int)) w := idx_smalls 9 Tryd.underlying9 .u32 _ _ (by omega) (by omega)
        have hlo2 : 0 ≤ x2 := by omega
        have hhi2 : x2 ≤ 198 := by omega
        clear hx2 hxe2
        go_region
        go_wp2
        go_end0
        have h := HI0.out.last (by omega)
        rw [HX.out] at h
        simp only [fbT] at h
        rw [DK1.out, DK2.out] at h
        exact ⟨rfl, n + 2 + 1, by rw [AW2.out, ← h]; exact store2_world w blk off dk2 (n + 2) (0 + 1) 0 _ _ (by omega) (by omega)⟩
      · go_wp2
        go_name_slot 15 x0 hx0
        have hxe0 : x0 = ((x % 100 * 2 : Nat) : Int) := by omega
        have hXa0 : ∀ w, (Instr.index 9 (.string Lib.smalls) (.int .u32 (x0 + 1))).run Tryd.prog w = .ok (.int .u8 ((sm (x % 100 * 2 + 1)).toNat : Int)) w := idx_smalls 9 Tryd.underlying9 .u32 _ _ (by omega) (by omega)
        have hXb0 : ∀ w, (Instr.index 9 (.string Lib.smalls) (.int .u32 x0)).run Tryd.prog w = .ok (.int .u8 ((sm (x % 100 * 2)).toNat : Int)) w := idx_smalls 9 Tryd.underlying9 .u32 _ _ (by omega) (by omega)
        have hlo0 : 0 ≤ x0 := by omega
        have hhi0 : x0 ≤ 198 := by omega
        clear hx0 hxe0
        go_region
        go_wp2
        go_name_world W1 hW1
        have hw1 : W1 = (putRow (fun (b : UInt8) => Value.int .u8 (b.toNat : Int)) w blk off (st2 dk0 (5) (x))).drewN (n + 0 + 1) := by rw [← hW1]; exact (by rw [AW0.out]; exact store2_world w blk off dk0 (n + 0) (5 + 1) (5) _ _ (by omega) (by omega))
        have hs1 : (st2 dk0 (5) (x)).size = d.size := by rw [st2_size]; exact hs0
        obtain ⟨dk1, hdk1⟩ : ∃ dk1, st2 dk0 (5) (x) = dk1 := ⟨_, rfl⟩
        rw [hdk1] at hw1 hs1
        have DK1 := Lib.hid hdk1
        clear hdk1 hW1 hc0 hf0 AW0 hXa0 hXb0 hs0
        have hH1 : Holds (fun (b : UInt8) => Value.int .u8 (b.toNat : Int)) W1 blk off dk1 := by rw [hw1]; exact holds_putRow _ w blk off d dk1 AH.out hs1
        obtain ⟨G1, hG1⟩ : ∃ G : Nat → Int, ∀ t, G t = (dk1[t]!.toNat : Int) := ⟨_, fun _ => rfl⟩
        have hc1 : ∀ t, t < d.size → W1.cell? ⟨blk, off + t, none⟩ = some (.int .u8 (G1 t)) := fun t ht => by rw [hG1]; exact (hH1 t (by omega)).1
        have hf1 : ∀ t, t < d.size → W1.frozen? ⟨blk, off + t, none⟩ = false := fun t ht => (hH1 t (by omega)).2
        have AW1 := Lib.hid hw1
        clear hw1 hG1 hH1
        go_name_slot 14 x1 hx1
        have hxe1 : x1 = ((x / 100 % 100 * 2 : Nat) : Int) := by omega
        have hXa1 : ∀ w, (Instr.index 9 (.string Lib.smalls) (.int .u32 (x1 + 1))).run Tryd.prog w = .ok (.int .u8 ((sm (x / 100 % 100 * 2 + 1)).toNat : Int)) w := idx_smalls 9 Tryd.underlying9 .u32 _ _ (by omega) (by omega)
        have hXb1 : ∀ w, (Instr.index 9 (.string Lib.smalls) (.int .u32 x1)).run Tryd.prog w = .ok (.int .u8 ((sm (x / 100 % 100 * 2)).toNat : Int)) w := idx_smalls 9 Tryd.underlying9 .u32 _ _ (by omega) (by omega)
        have hlo1 : 0 ≤ x1 := by omega
        have hhi1 : x1 ≤ 198 := by omega
        clear hx1 hxe1
        go_region
        go_wp2
        go_name_world W2 hW2
        have hw2 : W2 = (putRow (fun (b : UInt8) => Value.int .u8 (b.toNat : Int)) w blk off (st2 dk1 (3) (x / 100))).drewN (n + 1 + 1) := by rw [← hW2]; exact (by rw [AW1.out]; exact store2_world w blk off dk1 (n + 1) (3 + 1) (3) _ _ (by omega) (by omega))
        have hs2 : (st2 dk1 (3) (x / 100)).size = d.size := by rw [st2_size]; exact hs1
        obtain ⟨dk2, hdk2⟩ : ∃ dk2, st2 dk1 (3) (x / 100) = dk2 := ⟨_, rfl⟩
        rw [hdk2] at hw2 hs2
        have DK2 := Lib.hid hdk2
        clear hdk2 hW2 hc1 hf1 AW1 hXa1 hXb1 hs1
        have hH2 : Holds (fun (b : UInt8) => Value.int .u8 (b.toNat : Int)) W2 blk off dk2 := by rw [hw2]; exact holds_putRow _ w blk off d dk2 AH.out hs2
        obtain ⟨G2, hG2⟩ : ∃ G : Nat → Int, ∀ t, G t = (dk2[t]!.toNat : Int) := ⟨_, fun _ => rfl⟩
        have hc2 : ∀ t, t < d.size → W2.cell? ⟨blk, off + t, none⟩ = some (.int .u8 (G2 t)) := fun t ht => by rw [hG2]; exact (hH2 t (by omega)).1
        have hf2 : ∀ t, t < d.size → W2.frozen? ⟨blk, off + t, none⟩ = false := fun t ht => (hH2 t (by omega)).2
        have AW2 := Lib.hid hw2
        clear hw2 hG2 hH2
        go_name_slot 16 x2 hx2
        have hxe2 : x2 = ((x / 100 / 100 % 100 * 2 : Nat) : Int) := by omega
        have hXa2 : ∀ w, (Instr.index 9 (.string Lib.smalls) (.int .u32 (x2 + 1))).run Tryd.prog w = .ok (.int .u8 ((sm (x / 100 / 100 % 100 * 2 + 1)).toNat : Int)) w := idx_smalls 9 Tryd.underlying9 .u32 _ _ (by omega) (by omega)
        have hXb2 : ∀ w, (Instr.index 9 (.string Lib.smalls) (.int .u32 x2)).run Tryd.prog w = .ok (.int .u8 ((sm (x / 100 / 100 % 100 * 2)).toNat : Int)) w := idx_smalls 9 Tryd.underlying9 .u32 _ _ (by omega) (by omega)
        have hlo2 : 0 ≤ x2 := by omega
        have hhi2 : x2 ≤ 198 := by omega
        clear hx2 hxe2
        go_region
        go_wp2
        go_end0
        have h := HI0.out.last (by omega)
        rw [HX.out] at h
        simp only [fbT] at h
        rw [DK1.out, DK2.out] at h
        exact ⟨rfl, n + 2 + 1, by rw [AW2.out, ← h]; exact store21_world w blk off dk2 (n + 2) (1 + 1) 1 _ _ _ (x / 100 / 100 / 100) (by omega) (by omega) (by omega)⟩
end Go.Proofs.YtlnekfodkeifkaaDoor.T

/- What each method of the reference's buffer does to it, and answers: New, Reserve, Cancel, Weight. Conditions: the pointer leads to such a buffer, whose numbers are of everyday size. -/
import Derived.Test.YtlnekfodkeifkaaDoorSmall
import Derived.Test.YtlnekfodkeifkaaDoorOCx4
import Derived.LoopTactic
import Derived.Deep.QuietTactic
import Derived.BigQuiet
import Derived.Deep.RegionHeld3
import Derived.Deep.AppendLies
namespace Go.Proofs.YtlnekfodkeifkaaDoor.W
open Go.RowKit Go.Maps Go.Proofs.YtlnekfodkeifkaaDoorW.PrintLast Go.Proofs.YtlnekfodkeifkaaDoorW.PrintWords Go.Proofs.YtlnekfodkeifkaaDoor.OC
attribute [local go_sem] World.setCell_drew
set_option linter.unusedSimpArgs false
set_option linter.unusedVariables false

theorem rceil_up (n : Int) (d : Nat) : ∀ (x : Int) (k : Nat), 1 ≤ x → x * 2 ^ d = 4096 → d + 1 ≤ k → pantryref01_Ceil.l0 k n 4096 x = some (upV n d x) := by
  induction d with
  | zero =>
    intro x k h0 h1 hk
    obtain ⟨k, rfl⟩ : ∃ m, k = m + 1 := ⟨k - 1, by omega⟩
    simp only [Int.pow_zero, Int.mul_one] at h1
    subst h1
    rw [pantryref01_Ceil.l0]
    rw [if_neg (show ¬ (4096 : Int) < 4096 by omega)]
    simp [upV]
  | succ d ih =>
    intro x k h0 h1 hk
    obtain ⟨k, rfl⟩ : ∃ m, k = m + 1 := ⟨k - 1, by omega⟩
    have h2 : x * 2 * 2 ^ d = 4096 := by rw [Int.pow_succ, Int.mul_comm (2 ^ d) 2, ← Int.mul_assoc] at h1; exact h1
    have h3 : (1 : Int) ≤ 2 ^ d := by
      have : (0 : Int) < 2 ^ d := Int.pow_pos (by omega)
      omega
    have h4 : x * 2 ≤ 4096 := by
      have : x * 2 * 1 ≤ x * 2 * 2 ^ d := Int.mul_le_mul_of_nonneg_left h3 (by omega)
      omega
    rw [pantryref01_Ceil.l0, upV]
    by_cases hn : x < n
    · rw [if_pos hn, if_pos hn, if_pos (by omega), show wrap64 (2 * x) = x * 2 from by unfold wrap64; omega]
      exact ih (x * 2) k (by omega) h2 (by omega)
    · rw [if_neg hn, if_neg hn]
theorem rpower1 : pantryref01_power.f 20 1 = some true := by kernel_rfl
theorem rpower4096 : pantryref01_power.f 20 4096 = some true := by kernel_rfl
theorem rceil_is (n : Int) : pantryref01_Ceil.f 20 n 1 4096 = some (ceilV n) := by
  unfold pantryref01_Ceil.f
  rw [rpower1]; simp only [Option.bind_some]
  rw [rpower4096]; simp only [Option.bind_some, if_true]
  rw [decide_eq_false (by omega)]
  rw [pantryref01_Ceil.j0]
  rw [if_neg (by decide)]
  exact rceil_up n 12 1 19 (by omega) (by decide) (by omega)

/-- An event's cells; a row of events'. -/
def evC (e : Ev) : List Value := [.int .i64 e.deed, .int .i64 e.node, .int .i64 e.key, .int .i64 e.weight]
def flat : List Ev → List Value
  | [] => []
  | e :: r => evC e ++ flat r
theorem flat_len (L : List Ev) : (flat L).length = L.length * 4 := by
  induction L with
  | nil => rfl
  | cons e r ih => simp only [flat, List.length_append, ih, List.length_cons, evC, List.length_nil]; omega
theorem flat_snoc (L : List Ev) (e : Ev) : flat (L ++ [e]) = flat L ++ evC e := by
  induction L with
  | nil => simp [flat]
  | cons a r ih => simp only [List.cons_append, flat, ih, List.append_assoc]
theorem flat_one (L : List Ev) : ∀ u ∈ flat L, u.oneCell' = true := by
  induction L with
  | nil => intro u h; cases h
  | cons a r ih =>
    intro u h
    rcases List.mem_append.1 h with h | h
    · simp only [evC, List.mem_cons, List.not_mem_nil, or_false] at h
      rcases h with rfl | rfl | rfl | rfl <;> rfl
    · exact ih u h
theorem flat_at : ∀ (L : List Ev) (i : Nat) (e : Ev), L[i]? = some e → (flat L)[i * 4]? = some (.int .i64 e.deed) ∧ (flat L)[i * 4 + 1]? = some (.int .i64 e.node) ∧ (flat L)[i * 4 + 2]? = some (.int .i64 e.key) ∧ (flat L)[i * 4 + 3]? = some (.int .i64 e.weight) := by
  intro L
  induction L with
  | nil => intro i e h; simp at h
  | cons a r ih =>
    intro i e h
    cases i with
    | zero =>
      simp only [List.getElem?_cons_zero, Option.some.injEq] at h
      subst h
      exact ⟨rfl, rfl, rfl, rfl⟩
    | succ i =>
      simp only [List.getElem?_cons_succ] at h
      obtain ⟨h0, h1, h2, h3⟩ := ih i e h
      have hl : (evC a).length = 4 := rfl
      refine ⟨?_, ?_, ?_, ?_⟩
      · rw [flat, show (i + 1) * 4 = i * 4 + 4 by omega, List.getElem?_append_right (by omega), hl]; exact h0
      · rw [flat, show (i + 1) * 4 + 1 = i * 4 + 1 + 4 by omega, List.getElem?_append_right (by omega), hl]; exact h1
      · rw [flat, show (i + 1) * 4 + 2 = i * 4 + 2 + 4 by omega, List.getElem?_append_right (by omega), hl]; exact h2
      · rw [flat, show (i + 1) * 4 + 3 = i * 4 + 3 + 4 by omega, List.getElem?_append_right (by omega), hl]; exact h3

theorem infoEv : (Tryd.prog.info? 32).map (fun i => (i.zero, i.size, i.bytes)) = some (some (.agg #[.int .i64 0, .int .i64 0, .int .i64 0, .int .i64 0]), 4, 32) := by kernel_rfl
/-- Block g is a buffer of the reference: N places, its events in the row at A, R reserved. -/
structure RBuf (w : World) (B g : Nat) (N : Int) (L : List Ev) (R : Int) (A : Option Addr) (c : Nat) : Prop where
  block : w.heap[g]? = some (.cells #[.int .i64 N, .slice A L.length c, .int .i64 R] 46 (0, 0))
  own : w.ownsRow B 32 4 (.slice A L.length c) L.length (flat L)
  base : B ≤ g
/-- The blocks of such a buffer. -/
def RB (g : Nat) (A : Option Addr) : Nat → Prop := fun k => k = g ∨ A.map (·.block) = some k
theorem cells3 {w : World} {b : Nat} {v0 v1 v2 : Value} {t : TypeId} (h : w.heap[b]? = some (.cells #[v0, v1, v2] t (0, 0))) :
    w.cell? ⟨b, 0, none⟩ = some v0 ∧ w.cell? ⟨b, 1, none⟩ = some v1 ∧ w.cell? ⟨b, 2, none⟩ = some v2 := by
  refine ⟨?_, ?_, ?_⟩ <;> simp [World.cell?, h]
theorem free3 {w : World} {b : Nat} {cs : Array Value} {t : TypeId} (h : w.heap[b]? = some (.cells cs t (0, 0))) (j : Nat) : w.frozen? ⟨b, j, none⟩ = false := by
  simp [World.frozen?, h]
theorem own_kept {w w' : World} {S : Nat → Prop} {B : Nat} {e : TypeId} {s n c : Nat} {A : Option Addr} {xs : List Value} (h : w.ownsRow B e s (.slice A n c) n xs) (ho : Only S w w') (hS : ∀ k, A.map (·.block) = some k → ¬ S k) : w'.ownsRow B e s (.slice A n c) n xs := by
  refine ⟨h.1, ?_⟩
  rcases h.2 with hn | ⟨g, cap, cur, e1, hb, hg, rest⟩
  · exact .inl hn
  · refine .inr ⟨g, cap, cur, e1, hb, ?_, rest⟩
    injection e1 with e1 _ _
    subst e1
    rw [ho.block g (lt_block hg) (hS g rfl)]
    exact hg
theorem RBuf.kept {w w' : World} {S : Nat → Prop} {B g : Nat} {N : Int} {L : List Ev} {R : Int} {A : Option Addr} {c : Nat} (h : RBuf w B g N L R A c) (ho : Only S w w') (hS : ∀ k, RB g A k → ¬ S k) : RBuf w' B g N L R A c :=
  ⟨(ho.block g (lt_block h.block) (hS g (.inl rfl))).trans h.block, own_kept h.own ho (fun k hk => hS k (.inr hk)), h.base⟩
/-- Its row lies in no buffer of the program, nor in that one's map. -/
theorem RBuf.apart {w : World} {B g b m : Nat} {N N' : Int} {L L' : List Ev} {R F R' : Int} {A : Option Addr} {c : Nat} (h : RBuf w B g N L R A c) (hb : Buf w b m N' L' F R') : ∀ k, RB g A k → ¬ BM b m k := by
  obtain ⟨D, ⟨es, clock, hm, _⟩, _⟩ := hb.owns
  intro k hk hbm
  have hk' : ∃ cs t, w.heap[k]? = some (.cells cs t (0, 0)) ∧ t ≠ 54 := by
    rcases hk with rfl | hk
    · exact ⟨_, _, h.block, by decide⟩
    · rcases h.own.2 with ⟨e1, _⟩ | ⟨g', cap, cur, e1, _, hg, _⟩
      · injection e1 with e1 _ _
        subst e1
        cases hk
      · injection e1 with e1 _ _
        subst e1
        have : g' = k := by simpa using hk
        subst this
        exact ⟨_, _, hg, by decide⟩
  obtain ⟨cs, t, h1, h2⟩ := hk'
  rcases hbm with rfl | rfl
  · rw [hb.block] at h1
    injection h1 with h1
    injection h1 with _ h1
    exact h2 h1.symm
  · rw [hm] at h1
    injection h1 with h1
    cases h1

theorem rnew_any (B : Nat) (n : Int) (w : World) (hB : B ≤ w.heap.size) : Calls Tryd.prog 19 #[.int .i64 n] w fun e w' => ∃ g, e = .returned (.pointer (some ⟨g, 0, none⟩)) ∧ RBuf w' B g (ceilV n) [] 0 none 0 ∧ Below w.heap.size w w' := by
  have hc := rceil_is n
  have HC := Lib.hid hc
  clear hc
  go_enter Tryd.func19, Tryd.ntmps19
  go_wp2_with (go_at_call 29; refine (pantryref01_Ceil.calls 20 n 1 4096 (ceilV n) _ HC.out).mono ?_; rintro e w' ⟨rfl, ⟨nd, rfl⟩⟩)
  go_ret
  refine ⟨w.heap.size, rfl, ⟨?_, ⟨rfl, .inl ⟨rfl, rfl⟩⟩, hB⟩, (below_drewN (Below.refl _ _) nd).alloc (by simp [World.drewN]) _⟩
  exact heapNew (w.drewN nd) (.cells #[.int .i64 (ceilV n), .slice none 0 0, .int .i64 0] 46)
theorem rreserve_no {B g : Nat} {N : Int} {L : List Ev} {R : Int} {A : Option Addr} {c : Nat} {w : World} (h : RBuf w B g N L R A c) (hL : L.length ≤ 100000) (h0 : 0 ≤ R) (h1 : R ≤ 100000) (hN : N ≤ (L.length : Int) + R) :
    Calls Tryd.prog 20 #[.pointer (some ⟨g, 0, none⟩)] w fun e w' => e = .returned (.bool false) ∧ Below w.heap.size w w' := by
  obtain ⟨c0, c1, c2⟩ := cells3 h.block
  have c0' : w.cell? (Addr.add ⟨g, 0, none⟩ 0) = some (.int .i64 N) := c0
  have hw : IntKind.i64.wrap ((L.length : Int) + R) = (L.length : Int) + R := IntWalk.i64_in _ (by omega)
  clear h
  go_enter Tryd.func20, Tryd.ntmps20
  go_wp2
  go_quiet (fail)
  go_wp2
  go_ret
  exact ⟨rfl, below_drewN (Below.refl _ _) _⟩
theorem rreserve_ok {B g : Nat} {N : Int} {L : List Ev} {R : Int} {A : Option Addr} {c : Nat} {w : World} (h : RBuf w B g N L R A c) (hL : L.length ≤ 100000) (h0 : 0 ≤ R) (h1 : R ≤ 100000) (hN : (L.length : Int) + R < N) :
    Calls Tryd.prog 20 #[.pointer (some ⟨g, 0, none⟩)] w fun e w' => e = .returned (.bool true) ∧ RBuf w' B g N L (R + 1) A c ∧ Only (RB g A) w w' := by
  obtain ⟨c0, c1, c2⟩ := cells3 h.block
  have f2 := free3 h.block 2
  have c0' : w.cell? (Addr.add ⟨g, 0, none⟩ 0) = some (.int .i64 N) := c0
  have hw : IntKind.i64.wrap ((L.length : Int) + R) = (L.length : Int) + R := IntWalk.i64_in _ (by omega)
  have H := Lib.hid h
  clear h
  go_enter Tryd.func20, Tryd.ntmps20
  go_wp2
  go_quiet (fail)
  clear hw
  go_wp2
  go_ret
  refine ⟨rfl, ⟨store5 H.out.block 2 _, ?_, H.out.base⟩, ((Only.refl _ _).setCell (p := ⟨g, 2, none⟩) (Or.inl rfl) _).drewN _⟩
  exact own_kept H.out.own (((Only.refl (fun k => k = g) _).setCell (p := ⟨g, 2, none⟩) rfl _).drewN _) (fun k hk e => by
    subst e
    exact own_ne H.out.own H.out.block (by decide) (by cases A <;> simp_all [Value.ownBlock]))
theorem rcancel_none {B g : Nat} {N : Int} {L : List Ev} {A : Option Addr} {c : Nat} {w : World} (h : RBuf w B g N L 0 A c) :
    Calls Tryd.prog 23 #[.pointer (some ⟨g, 0, none⟩)] w fun e w' => e = .returned (.int .i64 3) ∧ w = w' := by
  obtain ⟨c0, c1, c2⟩ := cells3 h.block
  clear h
  go_enter Tryd.func23, Tryd.ntmps23
  go_wp2
  go_ret
  exact ⟨rfl, rfl⟩
theorem rcancel_ok {B g : Nat} {N : Int} {L : List Ev} {R : Int} {A : Option Addr} {c : Nat} {w : World} (h : RBuf w B g N L R A c) (h0 : 0 < R) (h1 : R ≤ 100000) :
    Calls Tryd.prog 23 #[.pointer (some ⟨g, 0, none⟩)] w fun e w' => e = .returned (.int .i64 0) ∧ RBuf w' B g N L (R - 1) A c ∧ Only (RB g A) w w' := by
  obtain ⟨c0, c1, c2⟩ := cells3 h.block
  have f2 := free3 h.block 2
  have hb : (R == 0) = false := beq_eq_false_iff_ne.2 (by omega)
  have H := Lib.hid h
  clear h
  go_enter Tryd.func23, Tryd.ntmps23
  go_wp2
  go_ret
  refine ⟨rfl, ⟨store5 H.out.block 2 _, ?_, H.out.base⟩, (Only.refl _ _).setCell (p := ⟨g, 2, none⟩) (Or.inl rfl) _⟩
  exact own_kept H.out.own ((Only.refl (fun k => k = g) _).setCell (p := ⟨g, 2, none⟩) rfl _) (fun k hk e => by
    subst e
    exact own_ne H.out.own H.out.block (by decide) (by cases A <;> simp_all [Value.ownBlock]))
end Go.Proofs.YtlnekfodkeifkaaDoor.W

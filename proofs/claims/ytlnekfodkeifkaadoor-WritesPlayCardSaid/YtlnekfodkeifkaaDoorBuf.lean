/- Words for the walks over a buffer of events: how an event reads in a map, a map that is a queue, a block that is a buffer, worlds that part in some blocks alone. -/
import Derived.Test.YtlnekfodkeifkaaDoorProg
import Derived.WalkKit
import Derived.WalkSmall
import Derived.Maps.OwnSet
import Derived.OneCell
import Derived.Deep.Draws
namespace Go.Proofs.YtlnekfodkeifkaaDoor.W
open Go.RowKit Go.Maps

/-- An event. -/
structure Ev where
  deed : Int
  node : Int
  key : Int
  weight : Int
def evV (e : Ev) : Value := .agg #[.int .i64 e.deed, .int .i64 e.node, .int .i64 e.key, .int .i64 e.weight]
def evD (e : Ev) : DataW Unit := .agg [.lit (.int .i64 e.deed), .lit (.int .i64 e.node), .lit (.int .i64 e.key), .lit (.int .i64 e.weight)]
/-- How an event reads among a map's elements. -/
def evElem : Value → Option (DataW Unit × List MemPlace)
  | .agg cs => match cs.toList with
    | [.int .i64 a, .int .i64 b, .int .i64 c, .int .i64 d] => some (.agg [.lit (.int .i64 a), .lit (.int .i64 b), .lit (.int .i64 c), .lit (.int .i64 d)], [])
    | _ => none
  | _ => none
theorem evElem_mk (e : Ev) : evElem (evV e) = some (evD e, []) := rfl
theorem evElem_inv {v : Value} {e : Ev} {ps : List MemPlace} (h : evElem v = some (evD e, ps)) : v = evV e := by
  unfold evElem at h
  split at h
  · rename_i cs
    split at h
    · rename_i a b c d hl
      simp only [evD, Option.some.injEq, Prod.mk.injEq, DataW.agg.injEq, List.cons.injEq, DataW.lit.injEq, Lit.int.injEq, true_and, and_true] at h
      obtain ⟨⟨h1, h2, h3, h4⟩, _⟩ := h
      subst h1; subst h2; subst h3; subst h4
      have : cs = #[.int .i64 e.deed, .int .i64 e.node, .int .i64 e.key, .int .i64 e.weight] := by
        apply Array.toList_inj.1; rw [hl]
      rw [this]; rfl
    · cases h
  · cases h
def evZero : Ev := ⟨0, 0, 0, 0⟩
/-- What an event weighs. -/
def hv (x : Int) : Int := if (2147483648 : Int) < (if (0 : Int) < x then x else 0) then 2147483648 else (if (0 : Int) < x then x else 0)
theorem hv_is (x : Int) : 0 ≤ hv x ∧ hv x ≤ 2147483648 := by
  unfold hv
  repeat' split
  all_goals omega
/-- What all weigh. -/
def wt : List Ev → Int
  | [] => 0
  | e :: r => hv e.weight + wt r
theorem wt_is (L : List Ev) : 0 ≤ wt L ∧ wt L ≤ 2147483648 * (L.length : Int) := by
  induction L with
  | nil => simp [wt]
  | cons e r ih => have := hv_is e.weight; simp only [wt, List.length_cons]; omega
theorem wt_snoc (L : List Ev) (e : Ev) : wt (L ++ [e]) = wt L + hv e.weight := by
  induction L with
  | nil => simp [wt]
  | cons a r ih => simp only [List.cons_append, wt, ih]; omega

/-- The map holds the queue's events, from key F on. -/
def IsQ (D : DataW Unit) (F : Int) (L : List Ev) : Prop :=
  (∀ k : Int, Maps.has D (.int .i64 k) = decide (F ≤ k ∧ k < F + (L.length : Int))) ∧ (∀ (i : Nat) (e : Ev), L[i]? = some e → ∀ z, D.atKey (.int .i64 (F + (i : Int))) z = evD e) ∧ Maps.size D = L.length
theorem isQ_nil (F : Int) : IsQ (.map []) F [] := by
  refine ⟨fun k => ?_, fun i e h => ?_, rfl⟩
  · simp [Maps.has]
  · simp at h
theorem keyNe {a b : Int} (h : a ≠ b) : (Lit.int .i64 a) ≠ Lit.int .i64 b := by intro e; cases e; exact h rfl
theorem isQ_push {D : DataW Unit} {F : Int} {L : List Ev} (h : IsQ D F L) (hT : Tidy D) (e : Ev) : IsQ (D.put (.int .i64 (F + (L.length : Int))) (evD e)) F (L ++ [e]) := by
  obtain ⟨h1, h2, h3⟩ := h
  refine ⟨fun k => ?_, fun i e' he z => ?_, ?_⟩
  · by_cases hk : k = F + (L.length : Int)
    · subst hk
      rw [has_put_same (k := .int .i64 (F + (L.length : Int))) hT.isMap trivial]
      symm; apply decide_eq_true; simp; omega
    · rw [has_put_other (keyNe hk), h1 k]
      apply decide_eq_decide.2
      simp; omega
  · by_cases hi : i < L.length
    · rw [List.getElem?_append_left hi] at he
      rw [atKey_put_other (keyNe (by omega))]
      exact h2 i e' he z
    · rw [List.getElem?_append_right (by omega)] at he
      have hi0 : i - L.length = 0 := by
        apply Classical.byContradiction
        intro hn
        rw [List.getElem?_eq_none (by simp; omega)] at he
        cases he
      rw [hi0] at he
      simp at he
      subst he
      have : i = L.length := by omega
      subst this
      rw [atKey_put_same (k := .int .i64 (F + (L.length : Int))) hT.isMap trivial]
  · rw [size_put hT, h1]
    simp [h3]
theorem isQ_pop {D : DataW Unit} {F : Int} {e : Ev} {L : List Ev} (h : IsQ D F (e :: L)) (hT : Tidy D) : IsQ (D.del (.int .i64 F)) (F + 1) L := by
  obtain ⟨h1, h2, h3⟩ := h
  refine ⟨fun k => ?_, fun i e' he z => ?_, ?_⟩
  · by_cases hk : k = F
    · subst hk
      rw [has_del_same]
      symm; apply decide_eq_false; omega
    · rw [has_del_other (keyNe hk), h1 k]
      apply decide_eq_decide.2
      simp only [List.length_cons]; omega
  · rw [atKey_del_other (keyNe (by omega))]
    have := h2 (i + 1) e' (by simpa using he) z
    rw [show F + 1 + (i : Int) = F + ((i + 1 : Nat) : Int) from by omega]
    exact this
  · have := size_del (k := .int .i64 F) hT
    rw [h1 F, h3] at this
    have hd : decide (F ≤ F ∧ F < F + (((e :: L).length : Nat) : Int)) = true := by apply decide_eq_true; simp only [List.length_cons]; omega
    rw [hd] at this
    simp only [if_true, List.length_cons] at this
    omega
theorem isQ_head {D : DataW Unit} {F : Int} {e : Ev} {L : List Ev} (h : IsQ D F (e :: L)) : Maps.has D (.int .i64 F) = true ∧ ∀ z, D.atKey (.int .i64 F) z = evD e := by
  refine ⟨?_, ?_⟩
  · rw [h.1 F]; apply decide_eq_true; simp only [List.length_cons]; omega
  · intro z; have := h.2.1 0 e rfl z; simpa using this
theorem isQ_none {D : DataW Unit} {F : Int} (h : IsQ D F []) : Maps.has D (.int .i64 F) = false := by
  rw [h.1 F]; apply decide_eq_false; simp

theorem lt_block {w : World} {b : Nat} {o : Obj} (h : w.heap[b]? = some o) : b < w.heap.size := by
  rcases Nat.lt_or_ge b w.heap.size with h' | h'
  · exact h'
  · simp [Array.getElem?_eq_none h'] at h
/-- Worlds that part in the blocks of S, and new ones, alone. -/
structure Only (S : Nat → Prop) (w w' : World) : Prop where
  os : w'.os = w.os
  tape : w'.tape = w.tape
  output : w'.output = w.output
  size : w.heap.size ≤ w'.heap.size
  block : ∀ k, k < w.heap.size → ¬ S k → w'.heap[k]? = w.heap[k]?
theorem Only.refl (S : Nat → Prop) (w : World) : Only S w w := ⟨rfl, rfl, rfl, Nat.le_refl _, fun _ _ _ => rfl⟩
theorem Only.trans {S : Nat → Prop} {a b c : World} (h : Only S a b) (k : Only S b c) : Only S a c :=
  ⟨k.os.trans h.os, k.tape.trans h.tape, k.output.trans h.output, Nat.le_trans h.size k.size, fun i hi hn => (k.block i (Nat.lt_of_lt_of_le hi h.size) hn).trans (h.block i hi hn)⟩
theorem Only.mono {S T : Nat → Prop} {a b : World} (h : Only S a b) (hs : ∀ k, S k → T k) : Only T a b := ⟨h.os, h.tape, h.output, h.size, fun i hi hn => h.block i hi (fun hk => hn (hs i hk))⟩
theorem Only.drew {S : Nat → Prop} {a w : World} (h : Only S a w) : Only S a w.drew := ⟨h.os, h.tape, h.output, h.size, h.block⟩
theorem Only.drewN {S : Nat → Prop} {a w : World} (h : Only S a w) (n : Nat) : Only S a (w.drewN n) := h.trans ⟨rfl, rfl, rfl, Nat.le_refl _, fun _ _ _ => rfl⟩
theorem Only.alloc {S : Nat → Prop} {a w : World} (h : Only S a w) (o : Obj) : Only S a (w.alloc o) :=
  h.trans ⟨rfl, rfl, rfl, by simp, fun k hk _ => RowKit.Below.heap_alloc w o k hk⟩
theorem Only.setCell {S : Nat → Prop} {a w : World} (h : Only S a w) {p : Addr} (hp : S p.block) (u : Value) : Only S a (w.setCell p u) :=
  h.trans ⟨rfl, rfl, rfl, by simp, fun k _ hn => RowKit.Below.heap_setCell w p u k (fun e => hn (e ▸ hp))⟩
theorem Only.grown {S : Nat → Prop} {a w w' : World} {m : Nat} (h : Only S a w) (hg : w.grownBy w' (some m)) (hm : S m) : Only S a w' :=
  h.trans ⟨hg.os, hg.tape, hg.output, hg.size, fun k hk hn => hg.block k hk (fun e => hn (by cases e; exact hm))⟩
theorem Only.of_below {S : Nat → Prop} {w w' : World} (h : Below w.heap.size w w') : Only S w w' := ⟨h.os, h.tape, h.output, h.size, fun k hk _ => h.block k hk⟩
theorem Only.below {S : Nat → Prop} {w w' : World} (h : Only S w w') {B : Nat} (hB : B ≤ w.heap.size) (hs : ∀ k, S k → B ≤ k) : Below B w w' :=
  ⟨h.os, h.tape, h.output, h.size, fun k hk => h.block k (Nat.lt_of_lt_of_le hk hB) (fun hS => by have := hs k hS; omega)⟩

/-- Block b is a buffer of the program: N places, its events in map m from key F on, R reserved. -/
structure Buf (w : World) (b m : Nat) (N : Int) (L : List Ev) (F R : Int) : Prop where
  ne : b ≠ m
  block : w.heap[b]? = some (.cells #[.int .i64 N, .map (some m), .int .i64 F, .int .i64 R, .int .i64 (wt L)] 54 (0, 0))
  owns : ∃ D, w.ownsMap Tryd.prog 3 evElem m L.length D ∧ IsQ D F L
theorem Buf.lt {w : World} {b m : Nat} {N : Int} {L : List Ev} {F R : Int} (h : Buf w b m N L F R) : b < w.heap.size ∧ m < w.heap.size := by
  obtain ⟨D, hD, _⟩ := h.owns
  exact ⟨lt_block h.block, hD.lt⟩
/-- A buffer stays what it is while other blocks turn. -/
theorem Buf.kept {w w' : World} {S : Nat → Prop} {b m : Nat} {N : Int} {L : List Ev} {F R : Int} (h : Buf w b m N L F R) (ho : Only S w w') (hb : ¬ S b) (hm : ¬ S m) : Buf w' b m N L F R := by
  obtain ⟨hbl, hml⟩ := h.lt
  refine ⟨h.ne, (ho.block b hbl hb).trans h.block, ?_⟩
  obtain ⟨D, ⟨es, clock, hh, r⟩, hq⟩ := h.owns
  exact ⟨D, ⟨es, clock, (ho.block m hml hm).trans hh, r⟩, hq⟩
/-- The cells of a buffer's block. -/
theorem cells5 {w : World} {b : Nat} {v0 v1 v2 v3 v4 : Value} {t : TypeId} (h : w.heap[b]? = some (.cells #[v0, v1, v2, v3, v4] t (0, 0))) :
    w.cell? ⟨b, 0, none⟩ = some v0 ∧ w.cell? ⟨b, 1, none⟩ = some v1 ∧ w.cell? ⟨b, 2, none⟩ = some v2 ∧ w.cell? ⟨b, 3, none⟩ = some v3 ∧ w.cell? ⟨b, 4, none⟩ = some v4 := by
  refine ⟨?_, ?_, ?_, ?_, ?_⟩ <;> simp [World.cell?, h]
theorem free5 {w : World} {b : Nat} {v0 v1 v2 v3 v4 : Value} {t : TypeId} (h : w.heap[b]? = some (.cells #[v0, v1, v2, v3, v4] t (0, 0))) (j : Nat) : w.frozen? ⟨b, j, none⟩ = false := by
  simp [World.frozen?, h]
/-- A cell is stored. -/
theorem store5 {w : World} {b : Nat} {cs : Array Value} {t : TypeId} (h : w.heap[b]? = some (.cells cs t (0, 0))) (j : Nat) (u : Value) :
    (w.setCell ⟨b, j, none⟩ u).heap[b]? = some (.cells (cs.setIfInBounds j u) t (0, 0)) := by
  have hlt := lt_block h
  have h' : w.heap[b] = .cells cs t (0, 0) := by simpa [Array.getElem?_eq_getElem hlt] using h
  show (w.heap.modify b _)[b]? = _
  rw [Array.getElem?_eq_getElem (by simpa using hlt), Array.getElem_modify_self, h']
  rfl
/-- A map's bound is as tight as can be. -/
theorem ownsMap_tight {P : Program} {k : TypeId} {R : Value → Option (DataW Unit × List MemPlace)} {w : World} {m n : Nat} {D : DataW Unit} (h : w.ownsMap P k R m n D) : w.ownsMap P k R m (Maps.size D) D := by
  obtain ⟨es, clock, hh, F, _, rfl⟩ := h
  exact ⟨es, clock, hh, F, by simp [Maps.size, length_sorted], rfl⟩
theorem ownsMap_setCell {P : Program} {k : TypeId} {R : Value → Option (DataW Unit × List MemPlace)} {w : World} {m n : Nat} {D : DataW Unit} (h : w.ownsMap P k R m n D) {a : Addr} (ha : m ≠ a.block) (u : Value) : (w.setCell a u).ownsMap P k R m n D := h.setCell ha u
end Go.Proofs.YtlnekfodkeifkaaDoor.W

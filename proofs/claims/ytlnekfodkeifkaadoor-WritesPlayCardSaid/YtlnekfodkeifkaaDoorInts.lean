/- A slice of ints that the function itself made, told by its list; what an append leaves. -/
import Derived.Test.YtlnekfodkeifkaaDoorSmall
import Derived.Test.YtlnekfodkeifkaaDoorOCx5
import Derived.LoopTactic
import Derived.Deep.QuietTactic
import Derived.BigQuiet
namespace Go.Proofs.YtlnekfodkeifkaaDoor.W
open Go.RowKit Go.Maps Go.Proofs.YtlnekfodkeifkaaDoorW.PrintLast Go.Proofs.YtlnekfodkeifkaaDoorW.PrintWords Go.Proofs.YtlnekfodkeifkaaDoor.OC

theorem infoInt : (Tryd.prog.info? 3).map (fun i => (i.zero, i.size, i.bytes)) = some (some (.int .i64 0), 1, 8) := by kernel_rfl
def Ints (w : World) (B : Nat) (v : Value) (I : List Int) : Prop := w.ownsRow B 3 1 v I.length (I.map (Value.int .i64))
theorem Ints.nil (w : World) (B : Nat) : Ints w B (.slice none 0 0) [] := World.ownsRow_nil w B 3 1
theorem Ints.shape {w : World} {B : Nat} {v : Value} {I : List Int} (h : Ints w B v I) : ∃ A c, v = .slice A I.length c ∧ I.length ≤ c := by
  rcases h.2 with ⟨e, hn⟩ | ⟨g, cap, cur, e, _, _, hl, _⟩
  · exact ⟨none, 0, by rw [hn]; exact e, by omega⟩
  · exact ⟨_, cap, e, hl⟩
theorem Ints.kept {w w' : World} {B : Nat} {v : Value} {I : List Int} {S : Nat → Prop} (h : Ints w B v I) (ho : Only S w w') (hv : ∀ k, v.ownBlock = some k → ¬ S k) : Ints w' B v I := by
  refine ⟨h.1, ?_⟩
  rcases h.2 with hn | ⟨g, cap, cur, rfl, hb, hg, rest⟩
  · exact .inl hn
  · refine .inr ⟨g, cap, cur, rfl, hb, ?_, rest⟩
    rw [ho.block g (lt_block hg) (hv g rfl)]
    exact hg
theorem Ints.drew {w : World} {B : Nat} {v : Value} {I : List Int} (h : Ints w B v I) (n : Nat) : Ints (w.drewN n) B v I := h.kept (only_drawn (S := fun _ => False) n) (fun _ _ h => h)
theorem Ints.alloc {w : World} {B : Nat} {v : Value} {I : List Int} (h : Ints w B v I) (o : Obj) : Ints (w.alloc o) B v I := h.kept ((Only.refl (fun _ => False) _).alloc o) (fun _ _ h => h)
/-- A prefix of the row, read as a slice. -/
theorem Ints.reads {w : World} {B : Nat} {A : Option Addr} {n c : Nat} {I O J : List Int} (h : Ints w B (.slice A n c) I) (hI : I = O ++ J) : Kd.C (Kd.int .i64) w A O.length O := by
  refine Kd.C_of_reads (d := (0 : Int)) (h1 := fun _ => rfl) ⟨rfl, ?_, fun hn => ?_⟩
  · rcases h.2 with ⟨_, hz⟩ | ⟨g, cap, cur, e, _, _, hl, hm, _⟩
    · have : O.length = 0 := by rw [hI, List.length_append] at hz; omega
      omega
    · rw [hI, List.length_append] at hl
      simp only [maxLen] at hm
      omega
  · rcases h.2 with ⟨_, hz⟩ | ⟨g, cap, cur, e, _, hg, hl, hm, _⟩
    · rw [hI, List.length_append] at hz; omega
    · obtain ⟨rfl, _, _⟩ : A = some ⟨g, 0, none⟩ ∧ n = I.length ∧ c = cap := by injection e with e1 e2 e3; exact ⟨e1, e2, e3⟩
      refine ⟨_, rfl, fun j hj => ?_⟩
      refine World.ownsRow.cells h rfl j _ ?_
      rw [hI, List.map_append, List.getElem?_append_left (by simpa using hj), List.getElem?_map, List.getElem?_eq_getElem hj]
      simp [List.getD, List.getElem?_eq_getElem hj]
/-- Apart: the rows' own blocks. -/
def Off (v : Value) (S : Nat → Prop) : Prop := ∀ k, v.ownBlock = some k → ¬ S k
def Blk (v : Value) : Nat → Prop := fun k => v.ownBlock = some k
theorem Only.row {w w' : World} {v : Value} (hg : w.grownBy w' v.ownBlock) : Only (Blk v) w w' :=
  ⟨hg.os, hg.tape, hg.output, hg.size, fun k hk hn => hg.block k hk (fun e => hn e.symm)⟩
theorem Ints.lt {w : World} {B : Nat} {v : Value} {I : List Int} (h : Ints w B v I) : ∀ k, Blk v k → B ≤ k ∧ k < w.heap.size := World.ownsRow.lt h
/-- Behind an append: the new value's block is the old one or new. -/
theorem off_grown {W : World} {v v1 : Value} {S : Nat → Prop} (h : Off v S) (hS : ∀ k, S k → k < W.heap.size) (hat : v1.ownBlock = v.ownBlock ∨ ∃ b, v1.ownBlock = some b ∧ W.heap.size ≤ b) : Off v1 S := fun k hk hs => by
  rcases hat with e | ⟨b, e, hb⟩
  · exact h k (e ▸ hk) hs
  · rw [e] at hk
    injection hk with hk
    have := hS k hs
    omega
theorem off_symm {v v' : Value} (h : Off v (Blk v')) : Off v' (Blk v) := fun k hk hs => h k hs hk
theorem ints_same : ∀ (k : Nat) (l : List Int) (i : Nat), l.length ≤ 1000000 → i ≤ l.length → l.length - i < k → pantryref03_Ints.l0 k l l i = some true := by
  intro k l
  induction k with
  | zero => intro i _ _ h; omega
  | succ k ih =>
    intro i hm hi hk
    rw [pantryref03_Ints.l0]
    by_cases h : (i : Int) < (l.length : Int)
    · rw [if_pos h, if_pos (by omega), if_pos h, if_pos rfl, show wrap64 ((i : Int) + 1) = ((i + 1 : Nat) : Int) from by unfold wrap64; omega]
      exact ih (i + 1) hm (by omega) (by omega)
    · rw [if_neg h]
theorem ints_eq (l : List Int) (h : l.length ≤ 1000000) : pantryref03_Ints.f (l.length + 1) l l = some true := by
  unfold pantryref03_Ints.f
  rw [if_pos rfl]
  exact ints_same _ l 0 h (by omega) (by omega)
end Go.Proofs.YtlnekfodkeifkaaDoor.W

/- What WritesPlay's walk rests on: two like events are equal, the texts of errors by their methods, a row of events that is read, what stands at each round. No conditions beyond those typed. -/
import Derived.Test.YtlnekfodkeifkaaDoorRefT
import Derived.Test.YtlnekfodkeifkaaDoorErrText
import Derived.Test.YtlnekfodkeifkaaDoorWeigh
import Derived.Test.YtlnekfodkeifkaaDoorWEqStruct
namespace Go.Proofs.YtlnekfodkeifkaaDoor.W
open Go.RowKit Go.Maps Go.Proofs.YtlnekfodkeifkaaDoorW.PrintLast Go.Proofs.YtlnekfodkeifkaaDoorW.PrintWords Go.Proofs.YtlnekfodkeifkaaDoor.OC Go.Proofs.YtlnekfodkeifkaaDoor.T
attribute [local go_sem] World.setCell_drew
set_option linter.unusedSimpArgs false
set_option linter.unusedVariables false

theorem methodErrorF (f : Addr) (w : World) : (Go.method 233 56 (.pointer (some f)) "Error").run Tryd.prog w = .ok (72, .pointer (some f)) w := by kernel_rfl
theorem nilAheadErrorF (f : Addr) (w : World) : (nilAhead 233 56 (.pointer (some f)) "Error").run Tryd.prog w = .ok (some false) w := by kernel_rfl
theorem eqlString (s : ByteArray) (w : World) : (binOp .eql 9 (.string s) (.string s)).run Tryd.prog w = .ok (.bool true) w := by simp [go_sem]
theorem eqlEvG (a b c d : Int) (w : World) : (binOp .eql 32 (.agg #[.int .i64 a, .int .i64 b, .int .i64 c, .int .i64 d]) (.agg #[.int .i64 a, .int .i64 b, .int .i64 c, .int .i64 d])).run Tryd.prog w = .ok (.bool true) w := by
  have hi : ∀ (x : Int) (D : Nat), (Op.equalIn (D + 1) 3 (.int .i64 x) (.int .i64 x)).run Tryd.prog w = .ok true w := fun x D => by
    rw [run_equalIn_int w D 3 .i64 .i64 x x Tryd.underlying3]; simp
  have h : (Op.equalIn 10000 32 (.agg #[.int .i64 a, .int .i64 b, .int .i64 c, .int .i64 d]) (.agg #[.int .i64 a, .int .i64 b, .int .i64 c, .int .i64 d])).run Tryd.prog w = .ok true w := by
    refine eqA_of Tryd.underlying32 (by kernel_rfl) ?_
    refine eqf_cons (r := true) (s := true) (a := .int .i64 a) (b := .int .i64 a) (by decide) (by kernel_rfl) (by kernel_rfl) (hi a _) ?_
    refine eqf_cons (r := true) (s := true) (a := .int .i64 b) (b := .int .i64 b) (by decide) (by kernel_rfl) (by kernel_rfl) (hi b _) ?_
    refine eqf_cons (r := true) (s := true) (a := .int .i64 c) (b := .int .i64 c) (by decide) (by kernel_rfl) (by kernel_rfl) (hi c _) ?_
    exact eqf_last (a := .int .i64 d) (b := .int .i64 d) (by decide) (by kernel_rfl) (by kernel_rfl) (hi d _)
  rw [run_eql_struct, h]
  rfl

/-- A slice of events reads as a function. -/
def EvRow (w : World) (a : Option Addr) (n : Nat) (E : Nat → Ev) : Prop := ∀ i, i < n → ∃ ad, a = some ad ∧ w.cell? (ad.add (i * 4)) = some (.int .i64 (E i).deed) ∧ w.cell? (ad.add (i * 4 + 1)) = some (.int .i64 (E i).node) ∧ w.cell? (ad.add (i * 4 + 2)) = some (.int .i64 (E i).key) ∧ w.cell? (ad.add (i * 4 + 3)) = some (.int .i64 (E i).weight)
theorem EvRow.kept {w w' : World} {a : Option Addr} {n : Nat} {E : Nat → Ev} {S : Nat → Prop} (h : EvRow w a n E) (ho : Only S w w') (hS : ∀ k, S k → w.heap.size ≤ k) : EvRow w' a n E := fun i hi => by
  obtain ⟨ad, e, c0, c1, c2, c3⟩ := h i hi
  have k : ∀ {p : Addr} {v : Value}, w.cell? p = some v → w'.cell? p = some v := fun {p v} hc => cell_kept hc ho fun hk => by
    have := hS _ hk
    have := World.block_lt_of_cell? w _ hc
    omega
  exact ⟨ad, e, k c0, k c1, k c2, k c3⟩
/-- What stands in the midst of a round: the two buffers, each with its own row and count. -/
structure PlMid (w wr : World) (b m g : Nat) (N F : Int) (Lx : List Ev) (rx : Int) (Ly : List Ev) (ry : Int) (A : Option Addr) (c : Nat) : Prop where
  buf : Buf wr b m N Lx F rx
  ref : RBuf wr w.heap.size g N Ly ry A c
  only : Only (fun k => w.heap.size ≤ k) w wr
  bm : ∀ k, BM b m k → w.heap.size ≤ k
theorem RBuf.above {w : World} {B g : Nat} {N : Int} {L : List Ev} {R : Int} {A : Option Addr} {c : Nat} (h : RBuf w B g N L R A c) : ∀ k, RB g A k → B ≤ k := by
  intro k hk
  rcases hk with rfl | hk
  · exact h.base
  · rcases h.own.2 with ⟨e1, _⟩ | ⟨g', cap, cur, e1, hb, _⟩
    · injection e1 with e1 _ _
      subst e1
      cases hk
    · injection e1 with e1 _ _
      subst e1
      have : g' = k := by simpa using hk
      omega
theorem PlMid.x {w wr w' : World} {b m g : Nat} {N F F' : Int} {Lx Lx' Ly : List Ev} {rx rx' ry : Int} {A : Option Addr} {c : Nat} (h : PlMid w wr b m g N F Lx rx Ly ry A c) (hb : Buf w' b m N Lx' F' rx') (ho : Only (BM b m) wr w') : PlMid w w' b m g N F' Lx' rx' Ly ry A c :=
  ⟨hb, h.ref.kept ho (h.ref.apart h.buf), h.only.trans (ho.mono h.bm), h.bm⟩
theorem PlMid.y {w wr w' : World} {b m g : Nat} {N F : Int} {Lx Ly Ly' : List Ev} {rx ry ry' : Int} {A A' : Option Addr} {c c' : Nat} (h : PlMid w wr b m g N F Lx rx Ly ry A c) (hr : RBuf w' w.heap.size g N Ly' ry' A' c') (ho : Only (RB g A) wr w') : PlMid w w' b m g N F Lx rx Ly' ry' A' c' :=
  ⟨h.buf.kept ho (fun hk => h.ref.apart h.buf _ hk (Or.inl rfl)) (fun hk => h.ref.apart h.buf _ hk (Or.inr rfl)), hr, h.only.trans (ho.mono h.ref.above), h.bm⟩
theorem PlMid.q {w wr w' : World} {b m g : Nat} {N F : Int} {Lx Ly : List Ev} {rx ry : Int} {A : Option Addr} {c : Nat} (h : PlMid w wr b m g N F Lx rx Ly ry A c) (ho : Only (fun _ => False) wr w') : PlMid w w' b m g N F Lx rx Ly ry A c :=
  ⟨h.buf.kept ho (fun h => h) (fun h => h), h.ref.kept ho (fun _ _ h => h), h.only.trans (ho.mono fun _ hk => hk.elim), h.bm⟩
theorem RBuf.lt' {w : World} {B g : Nat} {N : Int} {L : List Ev} {R : Int} {A : Option Addr} {c : Nat} (h : RBuf w B g N L R A c) : ∀ k, RB g A k → k < w.heap.size := by
  intro k hk
  rcases hk with rfl | hk
  · exact lt_block h.block
  · rcases h.own.2 with ⟨e1, _⟩ | ⟨g', cap, cur, e1, hb, hg, _⟩
    · injection e1 with e1 _ _
      subst e1
      cases hk
    · injection e1 with e1 _ _
      subst e1
      have : g' = k := by simpa using hk
      subst this
      exact lt_block hg
theorem cells4 {w : World} {b : Nat} {v0 v1 v2 v3 : Value} {t : TypeId} (h : w.heap[b]? = some (.cells #[v0, v1, v2, v3] t (0, 0))) :
    w.cell? ⟨b, 0, none⟩ = some v0 ∧ w.cell? ⟨b, 1, none⟩ = some v1 ∧ w.cell? ⟨b, 2, none⟩ = some v2 ∧ w.cell? ⟨b, 3, none⟩ = some v3 := by
  refine ⟨?_, ?_, ?_, ?_⟩ <;> simp [World.cell?, h]
theorem lenQ {b m : Nat} {N : Int} {L : List Ev} {F R : Int} {w : World} (h : Buf w b m N L F R) (n : Nat) :
    Calls Tryd.prog 13 #[.pointer (some ⟨b, 0, none⟩)] (w.drewN n) fun e w' => e = .returned (.int .i64 (L.length : Int)) ∧ w' = w.drewN n :=
  (lenB (h.kept (only_drawn (S := fun _ => False) n) (fun h => h) (fun h => h))).mono fun _ _ ⟨h1, h2⟩ => ⟨h1, h2.symm⟩
theorem reservedQ {b m : Nat} {N : Int} {L : List Ev} {F R : Int} {w : World} (h : Buf w b m N L F R) (n : Nat) :
    Calls Tryd.prog 17 #[.pointer (some ⟨b, 0, none⟩)] (w.drewN n) fun e w' => e = .returned (.int .i64 R) ∧ w' = w.drewN n :=
  (reservedB (h.kept (only_drawn (S := fun _ => False) n) (fun h => h) (fun h => h))).mono fun _ _ ⟨h1, h2⟩ => ⟨h1, h2.symm⟩
theorem sizeQ {b m : Nat} {N : Int} {L : List Ev} {F R : Int} {w : World} (h : Buf w b m N L F R) (n : Nat) :
    Calls Tryd.prog 14 #[.pointer (some ⟨b, 0, none⟩)] (w.drewN n) fun e w' => e = .returned (.int .i64 N) ∧ w' = w.drewN n :=
  (sizeB (h.kept (only_drawn (S := fun _ => False) n) (fun h => h) (fun h => h))).mono fun _ _ ⟨h1, h2⟩ => ⟨h1, h2.symm⟩
theorem weightQ {b m : Nat} {N : Int} {L : List Ev} {F R : Int} {w : World} (h : Buf w b m N L F R) (n : Nat) :
    Calls Tryd.prog 12 #[.pointer (some ⟨b, 0, none⟩)] (w.drewN n) fun e w' => e = .returned (.int .i64 (wt L)) ∧ w' = w.drewN n :=
  (weightB (h.kept (only_drawn (S := fun _ => False) n) (fun h => h) (fun h => h))).mono fun _ _ ⟨h1, h2⟩ => ⟨h1, h2.symm⟩
theorem rweightQ {B g : Nat} {N : Int} {L : List Ev} {R : Int} {A : Option Addr} {c : Nat} {w : World} (h : RBuf w B g N L R A c) (hL : L.length ≤ 100000) (n : Nat) :
    Calls Tryd.prog 25 #[.pointer (some ⟨g, 0, none⟩)] (w.drewN n) fun e w' => e = .returned (.int .i64 (wt L)) ∧ w' = w.drewN n :=
  (rweight_any (h.kept (only_drawn (S := fun _ => False) n) (fun _ _ h => h)) hL).mono fun _ _ ⟨h1, h2⟩ => ⟨h1, h2.symm⟩
/-- The text of the fault that Reserve gives. -/
theorem faultT {T : Nat → Int} {w : World} {f : Nat} {n k m : Int} (ht : TabT T w) (h : w.heap[f]? = some (.cells #[.int .i64 n, .int .i64 k, .int .i64 m] 58 (0, 0))) (hn : I64 n) (hk : I64 k) (hm : I64 m) :
    Calls Tryd.prog 72 #[.pointer (some ⟨f, 0, none⟩)] w fun e w' => e = .returned (.string (faultS T n k m)) ∧ Below w.heap.size w w' := by
  obtain ⟨c0, c1, c2⟩ := cells3 h
  exact faultText T f n k m hn hk hm w ht c0 c1 c2
end Go.Proofs.YtlnekfodkeifkaaDoor.W

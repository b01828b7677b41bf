/- A slice of events that came in, opened to its cells (the theorem open_slice_fields is the guide's, extra-structs.md, offered there to be copied). No conditions beyond those typed. -/
import Derived.Test.YtlnekfodkeifkaaDoorPlayB
import Derived.Deep.Slices
import Derived.Deep.Fields
import Derived.ChangeSame
namespace Go.Proofs.YtlnekfodkeifkaaDoor.W
open Go Go.ChangeShapes Go.WideShapes Go.Deep
section
variable {H : Type} {enc : TypeId × Value → H} {P : Program} {w : World} {base : Nat} {spare : Nat → Bool} {held : Bool}
theorem open_slice_fields {t e : TypeId} {fs : Array Field} {fuel : Nat} {cs : List Value} {x : DataW H × List MemPlace} (ht : P.underlying t = some (.slice e)) (he : P.underlying e = some (.struct fs))
    (hone : oneCellFields P fs = true) (hC : P.cellsOf e = fs.size) (h : DataW.trod enc P w base spare held fuel t cs = some x) :
    (cs = [.slice none 0 0] ∧ x = (.nil, [])) ∨
    ∃ (a : Addr) (len cap m : Nat) (D : Nat → DataW H) (Pl : Nat → List MemPlace), cs = [.slice (some a) len cap] ∧ base ≤ a.block ∧ len ≤ cap ∧ cap ≤ maxLen ∧ m = (if spare a.block then cap else len) ∧
      x = (.slice ((List.range len).map D) ((List.range (m - len)).map fun j => D (len + j)), MemPlace.row a (m * fs.size) ++ (List.range m).flatMap Pl) ∧
      ∀ i, i < m → ∃ (ys : List (DataW H × List MemPlace)) (n : Nat), D i = .agg (ys.map (·.1)) ∧ Pl i = ys.flatMap (·.2) ∧ ys.length = fs.size ∧
        ∀ (j : Nat) (f : Field), fs[j]? = some f → ∃ (v : Value) (y : DataW H × List MemPlace), w.cell? (a.add (i * fs.size + j)) = some v ∧ ys[j]? = some y ∧ DataW.trod enc P w base spare held n f.type [v] = some y := by
  rcases open_slice ht h with h0 | ⟨a, len, cap, m, n, D, Pl, hcs, hb, hl, hm, hmm, hx, hi⟩
  · exact .inl h0
  · refine .inr ⟨a, len, cap, m, D, Pl, hcs, hb, hl, hm, hmm, by rw [hC] at hx; exact hx, fun i him => ?_⟩
    obtain ⟨cs', hc, ht'⟩ := hi i him
    rw [hC] at hc
    obtain ⟨ys, n', hn', hy, hlen, hyl, hf⟩ := DataW.trod_struct he ht'
    obtain ⟨_, hcl, hat⟩ := World.cells?_some hc
    simp only [Prod.mk.injEq] at hy
    refine ⟨ys, n', hy.1, hy.2, hyl, fun j f hj => ?_⟩
    obtain ⟨ho, hk⟩ := hone_of hone j f hj
    have hjl : j < fs.size := (Array.getElem?_eq_some_iff.1 hj).1
    have hcell := hat j hjl
    have hv : cs'[j]? = some (cs'[j]'(by omega)) := List.getElem?_eq_getElem (by omega)
    have h1 := hf j f hj
    rw [ho, hk] at h1
    have hone' : (cs'.drop j).take 1 = [cs'[j]'(by omega)] := by
      rw [List.drop_eq_getElem_cons (by omega)]
      rfl
    rw [hone'] at h1
    have hys : ys[j]? = some (ys[j]'(by omega)) := List.getElem?_eq_getElem (by omega)
    refine ⟨_, _, ?_, hys, h1.trans hys⟩
    rw [← Go.Deep.add_add, hcell, hv]
end
theorem evRow_of {w : World} {a : Option Addr} {n : Nat} (h : ∀ i, i < n → ∃ (ad : Addr) (e : Ev), a = some ad ∧ w.cell? (ad.add (i * 4)) = some (.int .i64 e.deed) ∧ w.cell? (ad.add (i * 4 + 1)) = some (.int .i64 e.node) ∧ w.cell? (ad.add (i * 4 + 2)) = some (.int .i64 e.key) ∧ w.cell? (ad.add (i * 4 + 3)) = some (.int .i64 e.weight)) : ∃ E, EvRow w a n E := by
  refine ⟨fun i => if hi : i < n then Classical.choose (Classical.choose_spec (h i hi)) else ⟨0, 0, 0, 0⟩, fun i hi => ⟨Classical.choose (h i hi), ?_⟩⟩
  simp only [dif_pos hi]
  exact Classical.choose_spec (Classical.choose_spec (h i hi))
theorem open_events {H : Type} {enc : TypeId × Value → H} {w : World} {base : Nat} {spare : Nat → Bool} {held : Bool} {fuel : Nat} {a : Option Addr} {len cap : Nat} {x : DataW H × List MemPlace} (h : DataW.trod enc Tryd.prog w base spare held fuel 42 [.slice a len cap] = some x) : ∃ E, EvRow w a len E := by
  rcases open_slice_fields Tryd.underlying42 Tryd.underlying32 (by kernel_rfl) (by kernel_rfl) h with ⟨hcs, _⟩ | ⟨ad, l, c, m, D, Pl, hcs, _, hl, _, hm, _, hi⟩
  · simp at hcs
    obtain ⟨rfl, rfl, rfl⟩ := hcs
    exact ⟨fun _ => ⟨0, 0, 0, 0⟩, fun i hi => by omega⟩
  · simp at hcs
    obtain ⟨rfl, rfl, rfl⟩ := hcs
    refine evRow_of fun i hin => ?_
    obtain ⟨ys, n, _, _, _, hf⟩ := hi i (by rw [hm]; split <;> omega)
    have one : ∀ (j : Nat) (f : Field), _ = some f → f.type = 3 → ∃ z, w.cell? (ad.add (i * 4 + j)) = some (.int .i64 z) := fun j f hj hft => by
      obtain ⟨v, y, hc, _, ht⟩ := hf j f hj
      rw [hft] at ht
      obtain ⟨z, hz, _⟩ := DataW.trod_int Tryd.underlying3 ht
      simp at hz
      subst hz
      exact ⟨z, hc⟩
    obtain ⟨z0, c0⟩ := one 0 _ rfl rfl
    obtain ⟨z1, c1⟩ := one 1 _ rfl rfl
    obtain ⟨z2, c2⟩ := one 2 _ rfl rfl
    obtain ⟨z3, c3⟩ := one 3 _ rfl rfl
    exact ⟨ad, ⟨z0, z1, z2, z3⟩, rfl, c0, c1, c2, c3⟩
end Go.Proofs.YtlnekfodkeifkaaDoor.W

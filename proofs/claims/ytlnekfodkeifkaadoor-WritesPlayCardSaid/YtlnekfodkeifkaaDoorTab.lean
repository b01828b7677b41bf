/- What the shape of a row's world gives of the table internal/strconv.uint64pow10: its cells hold some numbers; and the plain wrap of a row with listed variables, the world's shape kept. No conditions. -/
import Derived.Test.YtlnekfodkeifkaaDoorErrText
import Derived.HandedShaped
import Derived.LaidLaws
import Derived.Handed
namespace Go.Proofs.YtlnekfodkeifkaaDoor.T
open Go.RowKit

theorem tab_row : ((begin Tryd.prog (fun _ _ => 0) default).world.heap[1]?).bind Obj.row? = some (Array.replicate 20 (.int .u64 0), 112) := by kernel_rfl
theorem tab_types : Tryd.prog.cellTypes Tryd.prog.depth 112 = some (List.replicate 20 104) := by kernel_rfl
theorem tab_built : Tryd.prog.buildable 112 = true := by kernel_rfl
theorem tab_in : 1 < Tryd.prog.globals.size := of_decide_eq_true (by kernel_rfl)
theorem cell_int {P : Program} {W : World} {r : Reach} {base : Nat} {t : TypeId} {k : IntKind} {v : Value} (hu : P.underlying t = some (.int k)) (hok : Cell.ok P W r base t v) : ∃ n, v = .int k n := by
  unfold Cell.ok at hok
  rw [hu] at hok
  cases v <;> simp at hok
  case int k' n => exact ⟨n, by rw [hok.1]⟩
theorem row_ints {P : Program} {W : World} {r : Reach} {base : Nat} {t U : TypeId} {k : IntKind} {N : Nat} {cs : Array Value} (ht : P.cellTypes P.depth t = some (List.replicate N U)) (hu : P.underlying U = some (.int k)) (hr : Row.ok P W r base t cs) (i : Nat) (hi : i < cs.size) : ∃ n, cs[i]? = some (.int k n) := by
  obtain ⟨ts, hts, _, hall⟩ := hr
  rw [ht] at hts
  obtain rfl := Option.some.inj hts
  have hcs : cs[i]? = some cs[i] := Array.getElem?_eq_getElem hi
  obtain ⟨u, hu', hok⟩ := hall i cs[i] hcs
  obtain rfl : u = U := (List.mem_replicate.1 (List.mem_of_getElem? hu')).2
  obtain ⟨n, hn⟩ := cell_int hu hok
  exact ⟨n, by rw [hcs, hn]⟩
theorem table_of {P : Program} {W : World} (h : W.ShapedOpen P) {g : Nat} {t U : TypeId} {k : IntKind} {N : Nat} (hg : g < P.globals.size) {z : Value} (hz : ((begin P (fun _ _ => 0) default).world.heap[g]?).bind Obj.row? = some (Array.replicate N z, t))
    (ht : P.cellTypes P.depth t = some (List.replicate N U)) (hu : P.underlying U = some (.int k)) (hb : P.buildable t = true) : ∃ T : Nat → Int, ∀ i, i < N → W.cell? ⟨g, i, none⟩ = some (.int k (T i)) := by
  obtain ⟨cs, hh, hs, hr⟩ := h.1 g _ _ hg hz
  rw [Array.size_replicate] at hs
  have hx := fun i (hi : i < cs.size) => row_ints ht hu (hr hb) i hi
  refine ⟨fun i => if hi : i < cs.size then Classical.choose (hx i hi) else 0, fun i hi => ?_⟩
  have hi' : i < cs.size := by omega
  simp only [dif_pos hi']
  have hcell : W.cell? ⟨g, i, none⟩ = cs[i]? := by
    simp [World.cell?, hh]
  rw [hcell]
  exact Classical.choose_spec (hx i hi')
theorem i64_of_wf {n : Int} (h : (Lit.int .i64 n).wf = true) : I64 n := by
  simp [Lit.wf, IntKind.min, IntKind.max, IntKind.signed, IntKind.bits] at h
  unfold I64
  omega
theorem i64_getD {zs : List Int} (h : ∀ n ∈ zs, (Lit.int .i64 n).wf = true) (i : Nat) : I64 (zs.getD i 0) := by
  by_cases hi : i < zs.length
  · rw [List.getD_eq_getElem?_getD, List.getElem?_eq_getElem hi]
    exact i64_of_wf (h _ (List.getElem_mem hi))
  · rw [List.getD_eq_getElem?_getD, List.getElem?_eq_none (by omega)]
    exact ⟨by decide, by decide⟩
theorem tab_of_shape {W : World} (h : W.ShapedOpen Tryd.prog) : ∃ T, TabT T W :=
  table_of h tab_in tab_row tab_types Tryd.underlying104 tab_built
end Go.Proofs.YtlnekfodkeifkaaDoor.T
namespace Go.Proofs.YtlnekfodkeifkaaDoor
variable {H : Type} {enc : TypeId × Value → H}
theorem handed_and_shaped {a : Assume} {C : Checked} {os : Os} {f : FuncId} {fn : Func} {s : ChangeSpec} {conds : List PathCond} {apart fresh handsOn again : Bool} {X : World → Array Value → Prop}
    (hX : ∀ (w w' : World) (args : Array Value), w.heap = w'.heap → X w args → X w' args)
    (own : ownKnob C.prog.godebug = none) (started : os.Started) (noInit : C.prog.inits.idxOf? f = none) (hfn : C.prog.funcs[f]? = some fn)
    (witness : ∃ (w : World) (tape : Tape) (i : Input), w.os = os ∧ (w.forCall tape i).Shaped C.prog ∧ i.vars = [] ∧ Input.okWide C.prog (w.forCall tape i) .any w.heap.size f i ∧
      ((s.pre enc C.prog fn conds apart (w.forCall tape i).memory i.args ∧ X (w.forCall tape i).memory i.args) ∧ sizedMet enc C.prog fn (OpenSpec.ofChange s) apart (w.forCall tape i).memory i.args) ∧ a.holds C.prog (lone (Frame.enter C.prog f i.args .normal) [] (w.forCall tape i)))
    (contract : ∀ (W : World) (base : Nat) (args : Array Value) (ds gs : List (DataW H)) (before : List MemPlace),
      (∀ (j : Nat) t v, fn.params[j]? = some t → args[j]? = some v → Value.okWide C.prog W .any base t v) →
      DataW.Whole enc C.prog fn.params.toList s.vars apart W args.toList ds gs before →
      X W args → W.ShapedOpen C.prog →
      Calls C.prog f args W fun e W' => ∃ v, e = .returned v ∧ s.post enc C.prog fn apart fresh handsOn again W args v W') :
    ReturnsInHanded a C os f .any (fun w args => (s.pre enc C.prog fn conds apart w args ∧ X w args) ∧ sizedMet enc C.prog fn (OpenSpec.ofChange s) apart w args) (s.post enc C.prog fn apart fresh handsOn again) := by
  refine returnsInHanded_of_calls own started noInit witness ?_
  intro w tape i _ hsh _ hok hpre hholds
  obtain ⟨_, _, _, fn', hfn', _, _, _, _, hval⟩ := hok
  have e : fn' = fn := Option.some.inj (hfn'.symm.trans hfn)
  subst e
  obtain ⟨⟨⟨ds, gs, before, hw, hc⟩, hx⟩, hz⟩ := hpre
  have hw' := DataW.Whole.of_heap (w' := w.forCall tape i) (by rfl) hw
  refine (contract (w.forCall tape i) w.heap.size i.args ds gs before hval hw' (hX _ _ _ (by rfl) hx) hsh).mono fun e W' ⟨v, he, hp⟩ => ?_
  subst he
  exact ChangeSpec.post_blind hp
end Go.Proofs.YtlnekfodkeifkaaDoor

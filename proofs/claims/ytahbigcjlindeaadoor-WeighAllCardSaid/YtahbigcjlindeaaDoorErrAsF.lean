/- errors.As at a target of **api.Fault, of the errors that the program makes: an Errno, a fault. Go's own text, walked over the model's entries for internal/reflectlite. Conditions: errors.errorType holds the type error; the target's cell is known. -/
import Derived.Test.YtahbigcjlindeaaDoorErrIs
namespace Go.Proofs.YtahbigcjlindeaaDoor.Err
open Go.RowKit Go.Extern.Stop Go.Stop Go.Extern

theorem valueOfPF (t : Addr) (w : World) : (ReflectliteValue.unpack (.iface 50 (.pointer (some t)))).run Tryd.prog w
    = .ok (.agg #[.pointer (some ⟨4, 50, none⟩), .pointer (some ⟨w.heap.size, 0, none⟩), .int .u64 150]) (w.alloc (.cells #[.pointer (some t)] 50)) := by kernel_rfl
theorem typePF (a : Addr) (w : World) : (ReflectliteValue.methodAny (ReflectliteValue.valueError "reflectlite.Value.Type" 0) (fun t _ _ _ => ReflectliteType.toType t) #[.agg #[.pointer (some ⟨4, 50, none⟩), .pointer (some a), .int .u64 150]]).run Tryd.prog w
    = .ok (.iface 69 (.agg #[.pointer (some ⟨4, 50, none⟩)])) w := by kernel_rfl
theorem kindPF (w : World) : ((ReflectliteType.abiMethod fun t => (fun a : Nat => Value.int IntKind.u8 (a : Int)) <$> Rtype.kind t) #[.pointer (some ⟨4, 50, none⟩)]).run Tryd.prog w = .ok (.int .u8 22) w := by kernel_rfl
theorem kindF (w : World) : ((ReflectliteType.abiMethod fun t => (fun a : Nat => Value.int IntKind.u8 (a : Int)) <$> Rtype.kind t) #[.pointer (some ⟨4, 48, none⟩)]).run Tryd.prog w = .ok (.int .u8 22) w := by kernel_rfl
theorem partsPF (a : Addr) (w : World) : (ReflectliteValue.parts (.agg #[.pointer (some ⟨4, 50, none⟩), .pointer (some a), .int .u64 150])).run Tryd.prog w = .ok (some (50, a, 150)) w := by kernel_rfl
theorem isNilPF (a p : Addr) (W : World) (ha : W.cell? a = some (.pointer (some p))) :
    (ReflectliteValue.method (ReflectliteValue.valueError "reflectlite.Value.IsNil" 0) ReflectliteValue.isNil #[.agg #[.pointer (some ⟨4, 50, none⟩), .pointer (some a), .int .u64 150]]).run Tryd.prog W = .ok (.bool false) W := by
  rw [rlm]
  simp only [Sem.run_bind, partsPF, Result.andThen]
  simp [ReflectliteValue.isNil, loadVar, isAgg, underlying, Tryd.underlying50, ha, Result.andThen]
theorem elemPF (w : World) : (ReflectliteType.method ReflectliteType.elem #[.agg #[.pointer (some ⟨4, 50, none⟩)]]).run Tryd.prog w = .ok (.iface 69 (.agg #[.pointer (some ⟨4, 48, none⟩)])) w := by kernel_rfl
theorem implementsF (w : World) : (ReflectliteType.relation "Implements" ReflectliteType.implements_ #[.agg #[.pointer (some ⟨4, 48, none⟩)], .iface 69 (.agg #[.pointer (some ⟨4, 24, none⟩)])]).run Tryd.prog w = .ok (.bool true) w := by kernel_rfl
theorem assignFF (w : World) : (ReflectliteType.relation "AssignableTo" ReflectliteType.assignableTo #[.agg #[.pointer (some ⟨4, 48, none⟩)], .iface 69 (.agg #[.pointer (some ⟨4, 48, none⟩)])]).run Tryd.prog w = .ok (.bool true) w := by kernel_rfl
theorem assignEF (w : World) : (ReflectliteType.relation "AssignableTo" ReflectliteType.assignableTo #[.agg #[.pointer (some ⟨4, 30, none⟩)], .iface 69 (.agg #[.pointer (some ⟨4, 48, none⟩)])]).run Tryd.prog w = .ok (.bool false) w := by kernel_rfl
theorem valueOfF (f : Addr) (w : World) : (ReflectliteValue.unpack (.iface 48 (.pointer (some f)))).run Tryd.prog w
    = .ok (.agg #[.pointer (some ⟨4, 48, none⟩), .pointer (some ⟨w.heap.size, 0, none⟩), .int .u64 150]) (w.alloc (.cells #[.pointer (some f)] 48)) := by kernel_rfl
theorem elemOfPF (w : World) : (Rtype.elem? 50).run Tryd.prog w = .ok (some 48) w := by kernel_rfl
theorem mkF (p : Addr) (w : World) : (ReflectliteValue.mk 48 p ReflectliteValue.flagAddr).run Tryd.prog w = .ok (.agg #[.pointer (some ⟨4, 48, none⟩), .pointer (some p), .int .u64 406]) w := by kernel_rfl
theorem elemVPF (a p : Addr) (W : World) (ha : W.cell? a = some (.pointer (some p))) :
    (ReflectliteValue.method (ReflectliteValue.valueError "reflectlite.Value.Elem" 0) ReflectliteValue.elem #[.agg #[.pointer (some ⟨4, 50, none⟩), .pointer (some a), .int .u64 150]]).run Tryd.prog W
      = .ok (.agg #[.pointer (some ⟨4, 48, none⟩), .pointer (some p), .int .u64 406]) W := by
  rw [rlm]
  simp only [Sem.run_bind, partsPF, Result.andThen]
  simp [ReflectliteValue.elem, loadVar, isAgg, underlying, Tryd.underlying50, ha, Result.andThen, elemOfPF, mkF]
theorem partsFa (a : Addr) (w : World) : (ReflectliteValue.parts (.agg #[.pointer (some ⟨4, 48, none⟩), .pointer (some a), .int .u64 406])).run Tryd.prog w = .ok (some (48, a, 406)) w := by kernel_rfl
theorem partsF (a : Addr) (w : World) : (ReflectliteValue.parts (.agg #[.pointer (some ⟨4, 48, none⟩), .pointer (some a), .int .u64 150])).run Tryd.prog w = .ok (some (48, a, 150)) w := by kernel_rfl
theorem directF (w : World) : (Rtype.directlyAssignable 48 48).run Tryd.prog w = .ok true w := by kernel_rfl
theorem setF (ta b : Addr) (f : Addr) (old : Value) (W : World) (hb : W.cell? b = some (.pointer (some f))) (ht : W.cell? ta = some old) (hf : W.frozen? ta = false) :
    (ReflectliteValue.set #[.agg #[.pointer (some ⟨4, 48, none⟩), .pointer (some ta), .int .u64 406], .agg #[.pointer (some ⟨4, 48, none⟩), .pointer (some b), .int .u64 150]]).run Tryd.prog W
      = .ok (.tuple #[]) (W.setCell ta (.pointer (some f))) := by
  rw [rls]
  simp only [Sem.run_bind, partsFa, partsF, Result.andThen]
  simp [ReflectliteValue.flagAddr, loadVar, isAgg, underlying, Tryd.underlying48, hb, Result.andThen, directF, storeVar, Value.cells, storeCells, Addr.add]
  rw [run_store Tryd.prog W ta _ _ (by rfl)]
  simp [ht, hf]

set_option maxRecDepth 100000 in
set_option maxHeartbeats 4000000 in
/-- errors.As of a fault, at a target of **api.Fault: true; the target holds the fault. -/
theorem asF_fault (f t : Addr) (old : Value) (w : World) (hg : ErrType w) (ht0 : w.cell? t = some old) (hf0 : w.frozen? t = false) :
    Calls Tryd.prog 20 #[.iface 48 (.pointer (some f)), .iface 50 (.pointer (some t))] w fun ev w' => ev = .returned (.bool true) ∧ w' = ((((w.alloc (.cells #[.pointer (some t)] 50)).alloc (.cells #[.pointer (some ⟨4, 50, none⟩), .pointer (some ⟨w.heap.size, 0, none⟩), .int .u64 150] 57)).alloc (.cells #[.pointer (some ⟨4, 50, none⟩), .pointer (some ⟨w.heap.size, 0, none⟩), .int .u64 150] 57)).alloc (.cells #[.pointer (some f)] 48)).setCell t (.pointer (some f)) := by
  have h6 := @run_callFunc_extern Tryd.prog 22 _ (fun args => ReflectliteValue.unpack (args.getD 0 (.tuple #[]))) Tryd.func22 (by kernel_rfl) (by kernel_rfl) (by kernel_rfl) (by kernel_rfl)
  have h7 := @run_callFunc_extern Tryd.prog 23 _ (ReflectliteValue.methodAny (ReflectliteValue.valueError "reflectlite.Value.Type" 0) (fun t _ _ _ => ReflectliteType.toType t)) Tryd.func23 (by kernel_rfl) (by kernel_rfl) (by kernel_rfl) (by kernel_rfl)
  have h8 := @run_callFunc_extern Tryd.prog 24 _ (ReflectliteValue.method (ReflectliteValue.valueError "reflectlite.Value.IsNil" 0) ReflectliteValue.isNil) Tryd.func24 (by kernel_rfl) (by kernel_rfl) (by kernel_rfl) (by kernel_rfl)
  have h27 := @run_callFunc_extern Tryd.prog 44 _ (ReflectliteType.abiMethod fun t => do pure (.int .u8 (← Rtype.kind t))) Tryd.func44 (by kernel_rfl) (by kernel_rfl) (by kernel_rfl) (by kernel_rfl)
  have h37 := @run_callFunc_extern Tryd.prog 70 _ (ReflectliteType.method ReflectliteType.elem) Tryd.func70 (by kernel_rfl) (by kernel_rfl) (by kernel_rfl) (by kernel_rfl)
  have h38 := @run_callFunc_extern Tryd.prog 71 _ (ReflectliteType.relation "Implements" ReflectliteType.implements_) Tryd.func71 (by kernel_rfl) (by kernel_rfl) (by kernel_rfl) (by kernel_rfl)
  have h10 := @run_callFunc_extern Tryd.prog 26 _ ReflectliteType.typeOf Tryd.func26 (by kernel_rfl) (by kernel_rfl) (by kernel_rfl) (by kernel_rfl)
  have h35 := @run_callFunc_extern Tryd.prog 68 _ (ReflectliteType.relation "AssignableTo" ReflectliteType.assignableTo) Tryd.func68 (by kernel_rfl) (by kernel_rfl) (by kernel_rfl) (by kernel_rfl)
  have h11 := @run_callFunc_extern Tryd.prog 28 _ (ReflectliteValue.method (ReflectliteValue.valueError "reflectlite.Value.Elem" 0) ReflectliteValue.elem) Tryd.func28 (by kernel_rfl) (by kernel_rfl) (by kernel_rfl) (by kernel_rfl)
  have h12 := @run_callFunc_extern Tryd.prog 29 _ ReflectliteValue.set Tryd.func29 (by kernel_rfl) (by kernel_rfl) (by kernel_rfl) (by kernel_rfl)
  have tOF := typeOfF
  have mA := methodAssignableTo
  have aF := assignFF
  have vF := valueOfF
  have f6 := valueOfPF
  have f7 := typePF
  have mK := methodKind
  have mE := methodElem
  have mI := methodImplements
  have kP := kindPF
  have kF := kindF
  have eP := elemPF
  have iF := implementsF
  have n8 := isNilPF ⟨w.heap.size, 0, none⟩ t ((w.alloc (.cells #[.pointer (some t)] 50)).alloc (.cells #[.pointer (some ⟨4, 50, none⟩), .pointer (some ⟨w.heap.size, 0, none⟩), .int .u64 150] 57)) (by simp)
  unfold ErrType at hg
  have hlt : 0 < w.heap.size := by
    rcases Nat.eq_zero_or_pos w.heap.size with h0 | h
    · simp [World.cell?, h0] at hg
    · exact h
  have hg2 : ((w.alloc (.cells #[.pointer (some t)] 50)).alloc (.cells #[.pointer (some ⟨4, 50, none⟩), .pointer (some ⟨w.heap.size, 0, none⟩), .int .u64 150] 57)).cell? ⟨0, 0, none⟩ = some (.iface 69 (.agg #[.pointer (some ⟨4, 24, none⟩)])) := by
    rw [World.cell?_alloc_lt _ _ ⟨0, 0, none⟩ (by simp), World.cell?_alloc_lt _ _ ⟨0, 0, none⟩ hlt]; exact hg
  have htl : t.block < w.heap.size := by
    rcases Nat.lt_or_ge t.block w.heap.size with h | h
    · exact h
    · simp [World.cell?, Array.getElem?_eq_none h] at ht0
  have el := elemVPF ⟨w.heap.size, 0, none⟩ t (((w.alloc (.cells #[.pointer (some t)] 50)).alloc (.cells #[.pointer (some ⟨4, 50, none⟩), .pointer (some ⟨w.heap.size, 0, none⟩), .int .u64 150] 57)).alloc (.cells #[.pointer (some ⟨4, 50, none⟩), .pointer (some ⟨w.heap.size, 0, none⟩), .int .u64 150] 57)) (by rw [World.cell?_alloc_lt _ _ ⟨w.heap.size, 0, none⟩ (by simp; omega)]; simp)
  have st := setF t ⟨w.heap.size + 1 + 1 + 1, 0, none⟩ f old ((((w.alloc (.cells #[.pointer (some t)] 50)).alloc (.cells #[.pointer (some ⟨4, 50, none⟩), .pointer (some ⟨w.heap.size, 0, none⟩), .int .u64 150] 57)).alloc (.cells #[.pointer (some ⟨4, 50, none⟩), .pointer (some ⟨w.heap.size, 0, none⟩), .int .u64 150] 57)).alloc (.cells #[.pointer (some f)] 48))
    (by rw [World.cell?_alloc_at _ _ _ _ (by simp)]; rfl)
    (by rw [World.cell?_alloc_lt _ _ t (by simp; omega), World.cell?_alloc_lt _ _ t (by simp; omega), World.cell?_alloc_lt _ _ t (by simp; omega), World.cell?_alloc_lt _ _ t htl]; exact ht0)
    (by rw [World.frozen?_alloc_old _ _ t (by simp; omega), World.frozen?_alloc_old _ _ t (by simp; omega), World.frozen?_alloc_old _ _ t (by simp; omega), World.frozen?_alloc_old _ _ t (Nat.ne_of_lt htl)]; exact hf0)
  go_enter Tryd.func20, Tryd.ntmps20
  go_wp2
  refine wp_loop_rounds 1 ?_
  rw [rounds_succ]
  go_wp2
  go_ret
  exact ⟨rfl, rfl⟩

set_option maxRecDepth 100000 in
set_option maxHeartbeats 4000000 in
/-- errors.As of an Errno, at a target of **api.Fault: false. -/
theorem asF_errno (n : Int) (t : Addr) (w : World) (hg : ErrType w) :
    Calls Tryd.prog 20 #[.iface 30 (.int .i64 n), .iface 50 (.pointer (some t))] w fun ev w' => ev = .returned (.bool false) ∧ Below w.heap.size w w' := by
  have h6 := @run_callFunc_extern Tryd.prog 22 _ (fun args => ReflectliteValue.unpack (args.getD 0 (.tuple #[]))) Tryd.func22 (by kernel_rfl) (by kernel_rfl) (by kernel_rfl) (by kernel_rfl)
  have h7 := @run_callFunc_extern Tryd.prog 23 _ (ReflectliteValue.methodAny (ReflectliteValue.valueError "reflectlite.Value.Type" 0) (fun t _ _ _ => ReflectliteType.toType t)) Tryd.func23 (by kernel_rfl) (by kernel_rfl) (by kernel_rfl) (by kernel_rfl)
  have h8 := @run_callFunc_extern Tryd.prog 24 _ (ReflectliteValue.method (ReflectliteValue.valueError "reflectlite.Value.IsNil" 0) ReflectliteValue.isNil) Tryd.func24 (by kernel_rfl) (by kernel_rfl) (by kernel_rfl) (by kernel_rfl)
  have h27 := @run_callFunc_extern Tryd.prog 44 _ (ReflectliteType.abiMethod fun t => do pure (.int .u8 (← Rtype.kind t))) Tryd.func44 (by kernel_rfl) (by kernel_rfl) (by kernel_rfl) (by kernel_rfl)
  have h37 := @run_callFunc_extern Tryd.prog 70 _ (ReflectliteType.method ReflectliteType.elem) Tryd.func70 (by kernel_rfl) (by kernel_rfl) (by kernel_rfl) (by kernel_rfl)
  have h38 := @run_callFunc_extern Tryd.prog 71 _ (ReflectliteType.relation "Implements" ReflectliteType.implements_) Tryd.func71 (by kernel_rfl) (by kernel_rfl) (by kernel_rfl) (by kernel_rfl)
  have h10 := @run_callFunc_extern Tryd.prog 26 _ ReflectliteType.typeOf Tryd.func26 (by kernel_rfl) (by kernel_rfl) (by kernel_rfl) (by kernel_rfl)
  have h35 := @run_callFunc_extern Tryd.prog 68 _ (ReflectliteType.relation "AssignableTo" ReflectliteType.assignableTo) Tryd.func68 (by kernel_rfl) (by kernel_rfl) (by kernel_rfl) (by kernel_rfl)
  have tOE := typeOfE
  have mA := methodAssignableTo
  have aE := assignEF
  have f6 := valueOfPF
  have f7 := typePF
  have mK := methodKind
  have mE := methodElem
  have mI := methodImplements
  have kP := kindPF
  have kF := kindF
  have eP := elemPF
  have iF := implementsF
  have nA := noAsE
  have uE := noUnwrapE
  have vE := noUnwrapsE
  have n8 := isNilPF ⟨w.heap.size, 0, none⟩ t ((w.alloc (.cells #[.pointer (some t)] 50)).alloc (.cells #[.pointer (some ⟨4, 50, none⟩), .pointer (some ⟨w.heap.size, 0, none⟩), .int .u64 150] 57)) (by simp)
  unfold ErrType at hg
  have hlt : 0 < w.heap.size := by
    rcases Nat.eq_zero_or_pos w.heap.size with h0 | h
    · simp [World.cell?, h0] at hg
    · exact h
  have hg2 : ((w.alloc (.cells #[.pointer (some t)] 50)).alloc (.cells #[.pointer (some ⟨4, 50, none⟩), .pointer (some ⟨w.heap.size, 0, none⟩), .int .u64 150] 57)).cell? ⟨0, 0, none⟩ = some (.iface 69 (.agg #[.pointer (some ⟨4, 24, none⟩)])) := by
    rw [World.cell?_alloc_lt _ _ ⟨0, 0, none⟩ (by simp), World.cell?_alloc_lt _ _ ⟨0, 0, none⟩ hlt]; exact hg
  go_enter Tryd.func20, Tryd.ntmps20
  go_wp2
  refine wp_loop_rounds 1 ?_
  rw [rounds_succ]
  go_wp2
  go_ret
  exact ⟨rfl, (((Below.refl _ _).alloc (Nat.le_refl _) _).alloc (by simp) _).alloc (by simp; omega) _⟩
end Go.Proofs.YtahbigcjlindeaaDoor.Err

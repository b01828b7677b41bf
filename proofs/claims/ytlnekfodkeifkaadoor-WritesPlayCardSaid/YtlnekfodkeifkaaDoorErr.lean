/- api.Number of a fault is the number in it: Go's own errors.As, walked at a target of *api.Errno over the model's entries for internal/reflectlite. Conditions: the package variable errors.errorType holds the type error; the fault's first cell is known. -/
import Derived.Test.YtlnekfodkeifkaaDoorProg
import Derived.WalkKit
import Derived.LaidEql
import Derived.Stop.Asserts
import Derived.RowKitTokens
import Derived.Outline
namespace Go.Proofs.YtlnekfodkeifkaaDoor.Err
open Go.RowKit Go.Extern.Stop Go.Stop Go.Extern

/-- The handle of a type. -/
abbrev hd (t : Nat) : Value := .pointer (some ⟨4, t, none⟩)
/-- errors.errorType holds the type error. -/
def ErrType (w : World) : Prop := w.cell? ⟨0, 0, none⟩ = some (.iface 75 (.agg #[.pointer (some ⟨4, 27, none⟩)]))

theorem valueOfPE (t : Addr) (w : World) : (ReflectliteValue.unpack (.iface 60 (.pointer (some t)))).run Tryd.prog w
    = .ok (.agg #[.pointer (some ⟨4, 60, none⟩), .pointer (some ⟨w.heap.size, 0, none⟩), .int .u64 150]) (w.alloc (.cells #[.pointer (some t)] 60)) := by kernel_rfl
theorem typePE (a : Addr) (w : World) : (ReflectliteValue.methodAny (ReflectliteValue.valueError "reflectlite.Value.Type" 0) (fun t _ _ _ => ReflectliteType.toType t) #[.agg #[.pointer (some ⟨4, 60, none⟩), .pointer (some a), .int .u64 150]]).run Tryd.prog w
    = .ok (.iface 75 (.agg #[.pointer (some ⟨4, 60, none⟩)])) w := by kernel_rfl
theorem methodKind (h : Value) (w : World) : (Go.method 233 75 (.agg #[h]) "Kind").run Tryd.prog w = .ok (54, h) w := by kernel_rfl
theorem kindPE (w : World) : ((ReflectliteType.abiMethod fun t => (fun a : Nat => Value.int IntKind.u8 (a : Int)) <$> Rtype.kind t) #[.pointer (some ⟨4, 60, none⟩)]).run Tryd.prog w = .ok (.int .u8 22) w := by kernel_rfl
theorem kindE (w : World) : ((ReflectliteType.abiMethod fun t => (fun a : Nat => Value.int IntKind.u8 (a : Int)) <$> Rtype.kind t) #[.pointer (some ⟨4, 29, none⟩)]).run Tryd.prog w = .ok (.int .u8 2) w := by kernel_rfl

theorem rlm (z : Sem Value) (f : TypeId → Addr → Nat → Nat → Sem Value) (v : Value) :
    ReflectliteValue.method z f #[v] = (do match ← ReflectliteValue.parts v with | none => z | some (t, a, fl) => f t a fl (fl % 32)) := rfl
theorem partsPE (a : Addr) (w : World) : (ReflectliteValue.parts (.agg #[.pointer (some ⟨4, 60, none⟩), .pointer (some a), .int .u64 150])).run Tryd.prog w = .ok (some (60, a, 150)) w := by kernel_rfl
theorem isNilPE (a p : Addr) (W : World) (ha : W.cell? a = some (.pointer (some p))) :
    (ReflectliteValue.method (ReflectliteValue.valueError "reflectlite.Value.IsNil" 0) ReflectliteValue.isNil #[.agg #[.pointer (some ⟨4, 60, none⟩), .pointer (some a), .int .u64 150]]).run Tryd.prog W = .ok (.bool false) W := by
  rw [rlm]
  simp only [Sem.run_bind, partsPE, Result.andThen]
  simp [ReflectliteValue.isNil, loadVar, isAgg, underlying, Tryd.underlying60, ha, Result.andThen]
theorem methodElem (h : Value) (w : World) : (Go.method 233 75 (.agg #[h]) "Elem").run Tryd.prog w = .ok (80, .agg #[h]) w := by kernel_rfl
theorem methodImplements (h : Value) (w : World) : (Go.method 233 75 (.agg #[h]) "Implements").run Tryd.prog w = .ok (81, .agg #[h]) w := by kernel_rfl
theorem methodAssignableTo (h : Value) (w : World) : (Go.method 233 75 (.agg #[h]) "AssignableTo").run Tryd.prog w = .ok (78, .agg #[h]) w := by kernel_rfl
theorem elemPE (w : World) : (ReflectliteType.method ReflectliteType.elem #[.agg #[.pointer (some ⟨4, 60, none⟩)]]).run Tryd.prog w = .ok (.iface 75 (.agg #[.pointer (some ⟨4, 29, none⟩)])) w := by kernel_rfl
theorem implementsE (w : World) : (ReflectliteType.relation "Implements" ReflectliteType.implements_ #[.agg #[.pointer (some ⟨4, 29, none⟩)], .iface 75 (.agg #[.pointer (some ⟨4, 27, none⟩)])]).run Tryd.prog w = .ok (.bool true) w := by kernel_rfl
theorem typeOfF (v : Value) (w : World) : (ReflectliteType.typeOf #[.iface 56 v]).run Tryd.prog w = .ok (.iface 75 (.agg #[.pointer (some ⟨4, 56, none⟩)])) w := by kernel_rfl
theorem typeOfE (v : Value) (w : World) : (ReflectliteType.typeOf #[.iface 29 v]).run Tryd.prog w = .ok (.iface 75 (.agg #[.pointer (some ⟨4, 29, none⟩)])) w := by kernel_rfl
theorem assignFE (w : World) : (ReflectliteType.relation "AssignableTo" ReflectliteType.assignableTo #[.agg #[.pointer (some ⟨4, 56, none⟩)], .iface 75 (.agg #[.pointer (some ⟨4, 29, none⟩)])]).run Tryd.prog w = .ok (.bool false) w := by kernel_rfl
theorem assignEE (w : World) : (ReflectliteType.relation "AssignableTo" ReflectliteType.assignableTo #[.agg #[.pointer (some ⟨4, 29, none⟩)], .iface 75 (.agg #[.pointer (some ⟨4, 29, none⟩)])]).run Tryd.prog w = .ok (.bool true) w := by kernel_rfl
theorem valueOfE (n : Int) (w : World) : (ReflectliteValue.unpack (.iface 29 (.int .i64 n))).run Tryd.prog w
    = .ok (.agg #[.pointer (some ⟨4, 29, none⟩), .pointer (some ⟨w.heap.size, 0, none⟩), .int .u64 130]) (w.alloc (.cells #[.int .i64 n] 29)) := by kernel_rfl
theorem elemOfPE (w : World) : (Rtype.elem? 60).run Tryd.prog w = .ok (some 29) w := by kernel_rfl
theorem mkE (p : Addr) (w : World) : (ReflectliteValue.mk 29 p ReflectliteValue.flagAddr).run Tryd.prog w = .ok (.agg #[.pointer (some ⟨4, 29, none⟩), .pointer (some p), .int .u64 386]) w := by kernel_rfl
theorem elemVPE (a p : Addr) (W : World) (ha : W.cell? a = some (.pointer (some p))) :
    (ReflectliteValue.method (ReflectliteValue.valueError "reflectlite.Value.Elem" 0) ReflectliteValue.elem #[.agg #[.pointer (some ⟨4, 60, none⟩), .pointer (some a), .int .u64 150]]).run Tryd.prog W
      = .ok (.agg #[.pointer (some ⟨4, 29, none⟩), .pointer (some p), .int .u64 386]) W := by
  rw [rlm]
  simp only [Sem.run_bind, partsPE, Result.andThen]
  simp [ReflectliteValue.elem, loadVar, isAgg, underlying, Tryd.underlying60, ha, Result.andThen, elemOfPE, mkE]
theorem rls (v x : Value) : ReflectliteValue.set #[v, x] = (do
    let (some (dst, a, fl), some (src, b, _)) := (← ReflectliteValue.parts v, ← ReflectliteValue.parts x)
      | unsupported (.noEntry "extern/(internal/reflectlite.Value).Set.zeroValue")
    if fl / ReflectliteValue.flagAddr % 2 == 0 then unsupported (.noEntry "extern/(internal/reflectlite.Value).Set.unaddressable")
    let val ← loadVar src b
    if ← Rtype.directlyAssignable dst src then storeVar dst a val
    else if ← Rtype.implements dst src then
      if (← Rtype.kind src) == 20 then
        match val with
        | .nilIface => unsupported (.noEntry "extern/reflectlite: a nil value of one interface type handed on as a value of another")
        | _ => storeVar dst a val
      else storeVar dst a (.iface src val)
    else panicString ("reflectlite.Set: value of type " ++ (← Rtype.spelt src) ++ " is not assignable to type " ++ (← Rtype.spelt dst))
    pure (.tuple #[])) := rfl
theorem partsEa (a : Addr) (w : World) : (ReflectliteValue.parts (.agg #[.pointer (some ⟨4, 29, none⟩), .pointer (some a), .int .u64 386])).run Tryd.prog w = .ok (some (29, a, 386)) w := by kernel_rfl
theorem partsE (a : Addr) (w : World) : (ReflectliteValue.parts (.agg #[.pointer (some ⟨4, 29, none⟩), .pointer (some a), .int .u64 130])).run Tryd.prog w = .ok (some (29, a, 130)) w := by kernel_rfl
theorem directE (w : World) : (Rtype.directlyAssignable 29 29).run Tryd.prog w = .ok true w := by kernel_rfl
theorem setE (ta b : Addr) (n : Int) (old : Value) (W : World) (hb : W.cell? b = some (.int .i64 n)) (ht : W.cell? ta = some old) (hf : W.frozen? ta = false) :
    (ReflectliteValue.set #[.agg #[.pointer (some ⟨4, 29, none⟩), .pointer (some ta), .int .u64 386], .agg #[.pointer (some ⟨4, 29, none⟩), .pointer (some b), .int .u64 130]]).run Tryd.prog W
      = .ok (.tuple #[]) (W.setCell ta (.int .i64 n)) := by
  rw [rls]
  simp only [Sem.run_bind, partsEa, partsE, Result.andThen]
  simp [ReflectliteValue.flagAddr, loadVar, isAgg, underlying, Tryd.underlying29, hb, Result.andThen, directE, storeVar, Value.cells, storeCells, Addr.add]
  rw [run_store Tryd.prog W ta _ _ (by rfl)]
  simp [ht, hf]

/-! ### assertions, the invoked Unwrap -/
theorem noAsF (v : Value) (xT : TypeId) (w : World) : (Instr.typeAssert (.iface 56 v) xT 80 true).run Tryd.prog w = .ok (.tuple #[.nilIface, .bool false]) w :=
  run_typeAssert_lacksB Tryd.underlying80 (by kernel_rfl) (by kernel_rfl) v xT w
theorem unwrapF (v : Value) (xT : TypeId) (w : World) : (Instr.typeAssert (.iface 56 v) xT 83 true).run Tryd.prog w = .ok (.tuple #[.iface 56 v, .bool true]) w :=
  run_typeAssert_hasB Tryd.underlying83 (by kernel_rfl) v xT w
theorem methodUnwrapF (f : Addr) (w : World) : (Go.method 233 56 (.pointer (some f)) "Unwrap").run Tryd.prog w = .ok (73, .pointer (some f)) w := by kernel_rfl
theorem nilAheadF (f : Addr) (w : World) : (nilAhead 233 56 (.pointer (some f)) "Unwrap").run Tryd.prog w = .ok (some false) w := by kernel_rfl

theorem unwrap_any (f : Addr) (n : Int) (w : World) (hc : w.cell? f = some (.int .i64 n)) : Calls Tryd.prog 73 #[.pointer (some f)] w fun e w' => e = .returned (.iface 29 (.int .i64 n)) ∧ w = w' := by
  have hc0 : w.cell? (f.add 0) = some (.int .i64 n) := hc
  go_enter Tryd.func73, Tryd.ntmps73
  go_wp2
  go_ret
  exact ⟨rfl, rfl⟩
end Go.Proofs.YtlnekfodkeifkaaDoor.Err

/- Part of the proof of TopEvicts (Err). -/
import Derived.Test.YtdkhbegheognnaaGreatDoorProg
import Derived.WalkKit
import Derived.LaidEql
import Derived.Stop.Asserts
import Derived.RowKitTokens
import Derived.Outline
namespace Go.Proofs.YtdkhbegheognnaaGreatDoor.Err
open Go.RowKit Go.Extern.Stop Go.Stop Go.Extern
abbrev hd (t : Nat) : Value := .pointer (some ⟨1,t,none⟩)
def ErrType (w : World) : Prop := w.cell? ⟨0,0,none⟩ = some (.iface 269 (.agg #[.pointer (some ⟨1,191,none⟩)]))
theorem Zsl (t : Addr) (w : World) : (ReflectliteValue.unpack (.iface 267 (.pointer (some t)))).run Tryz.prog w
  = .ok (.agg #[.pointer (some ⟨1,267,none⟩),.pointer (some ⟨w.heap.size,0,none⟩),.int .u64 150]) (w.alloc (.cells #[.pointer (some t)] 267)) := by kernel_rfl
theorem Ybq (a : Addr) (w : World) : (ReflectliteValue.methodAny (ReflectliteValue.valueError "reflectlite.Value.Type" 0) (fun t _ _ _ => ReflectliteType.toType t) #[.agg #[.pointer (some ⟨1, 267, none⟩), .pointer (some a), .int .u64 150]]).run Tryz.prog w
  = .ok (.iface 269 (.agg #[.pointer (some ⟨1,267,none⟩)])) w := by kernel_rfl
theorem Znx (h : Value) (w : World) : (Go.method 463 269 (.agg #[h]) "Kind").run Tryz.prog w = .ok (240, h) w := by kernel_rfl
theorem Yax (w : World) : ((ReflectliteType.abiMethod fun t => (fun a : Nat => Value.int IntKind.u8 (a : Int)) <$> Rtype.kind t) #[.pointer (some ⟨1,267,none⟩)]).run Tryz.prog w = .ok (.int .u8 22) w := by kernel_rfl
theorem Yco (w : World) : ((ReflectliteType.abiMethod fun t => (fun a : Nat => Value.int IntKind.u8 (a : Int)) <$> Rtype.kind t) #[.pointer (some ⟨1,47,none⟩)]).run Tryz.prog w = .ok (.int .u8 2) w := by kernel_rfl
theorem rlm (z : Sem Value) (f : TypeId → Addr → Nat → Nat → Sem Value) (v : Value) :
  ReflectliteValue.method z f #[v] = (do match ← ReflectliteValue.parts v with | none => z | some (t,a,fl) => f t a fl (fl % 32)) := rfl
theorem Zpo (a : Addr) (w : World) : (ReflectliteValue.parts (.agg #[.pointer (some ⟨1,267,none⟩),.pointer (some a),.int .u64 150])).run Tryz.prog w = .ok (some (267,a,150)) w := by kernel_rfl
theorem Zx0 (a p : Addr) (W : World) (ha : W.cell? a = some (.pointer (some p))) :
  (ReflectliteValue.method (ReflectliteValue.valueError "reflectlite.Value.IsNil" 0) ReflectliteValue.isNil #[.agg #[.pointer (some ⟨1, 267, none⟩), .pointer (some a), .int .u64 150]]).run Tryz.prog W = .ok (.bool false) W := by
 rw [rlm]
 simp only [Sem.run_bind,Zpo,Result.andThen]
 simp [ReflectliteValue.isNil,loadVar,isAgg,underlying,Tryz.underlying267,ha,Result.andThen]
theorem Znw (h : Value) (w : World) : (Go.method 463 269 (.agg #[h]) "Elem").run Tryz.prog w = .ok (257, .agg #[h]) w := by kernel_rfl
theorem Zey (h : Value) (w : World) : (Go.method 463 269 (.agg #[h]) "Implements").run Tryz.prog w = .ok (258, .agg #[h]) w := by kernel_rfl
theorem Zdj (h : Value) (w : World) : (Go.method 463 269 (.agg #[h]) "AssignableTo").run Tryz.prog w = .ok (255, .agg #[h]) w := by kernel_rfl
theorem Yaj (w : World) : (ReflectliteType.method ReflectliteType.elem #[.agg #[.pointer (some ⟨1,267,none⟩)]]).run Tryz.prog w = .ok (.iface 269 (.agg #[.pointer (some ⟨1,47,none⟩)])) w := by kernel_rfl
theorem Zlc (w : World) : (ReflectliteType.relation "Implements" ReflectliteType.implements_ #[.agg #[.pointer (some ⟨1, 47, none⟩)], .iface 269 (.agg #[.pointer (some ⟨1, 191, none⟩)])]).run Tryz.prog w = .ok (.bool true) w := by kernel_rfl
theorem Zzh (v : Value) (w : World) : (ReflectliteType.typeOf #[.iface 278 v]).run Tryz.prog w = .ok (.iface 269 (.agg #[.pointer (some ⟨1,278,none⟩)])) w := by kernel_rfl
theorem typeOfE (v : Value) (w : World) : (ReflectliteType.typeOf #[.iface 47 v]).run Tryz.prog w = .ok (.iface 269 (.agg #[.pointer (some ⟨1,47,none⟩)])) w := by kernel_rfl
theorem Zti (w : World) : (ReflectliteType.relation "AssignableTo" ReflectliteType.assignableTo #[.agg #[.pointer (some ⟨1, 278, none⟩)], .iface 269 (.agg #[.pointer (some ⟨1, 47, none⟩)])]).run Tryz.prog w = .ok (.bool false) w := by kernel_rfl
theorem Zth (w : World) : (ReflectliteType.relation "AssignableTo" ReflectliteType.assignableTo #[.agg #[.pointer (some ⟨1, 47, none⟩)], .iface 269 (.agg #[.pointer (some ⟨1, 47, none⟩)])]).run Tryz.prog w = .ok (.bool true) w := by kernel_rfl
theorem Zww (n : Int) (w : World) : (ReflectliteValue.unpack (.iface 47 (.int .i64 n))).run Tryz.prog w
  = .ok (.agg #[.pointer (some ⟨1,47,none⟩),.pointer (some ⟨w.heap.size,0,none⟩),.int .u64 130]) (w.alloc (.cells #[.int .i64 n] 47)) := by kernel_rfl
theorem Zt7 (w : World) : (Rtype.elem? 267).run Tryz.prog w = .ok (some 47) w := by kernel_rfl
theorem mkE (p : Addr) (w : World) : (ReflectliteValue.mk 47 p ReflectliteValue.flagAddr).run Tryz.prog w = .ok (.agg #[.pointer (some ⟨1,47,none⟩),.pointer (some p),.int .u64 386]) w := by kernel_rfl
theorem Zxr (a p : Addr) (W : World) (ha : W.cell? a = some (.pointer (some p))) :
  (ReflectliteValue.method (ReflectliteValue.valueError "reflectlite.Value.Elem" 0) ReflectliteValue.elem #[.agg #[.pointer (some ⟨1, 267, none⟩), .pointer (some a), .int .u64 150]]).run Tryz.prog W
   = .ok (.agg #[.pointer (some ⟨1,47,none⟩),.pointer (some p),.int .u64 386]) W := by
 rw [rlm]
 simp only [Sem.run_bind,Zpo,Result.andThen]
 simp [ReflectliteValue.elem,loadVar,isAgg,underlying,Tryz.underlying267,ha,Result.andThen,Zt7,mkE]
theorem rls (v x : Value) : ReflectliteValue.set #[v,x] = (do
  let (some (dst,a,fl),some (src,b,_)) := (← ReflectliteValue.parts v,← ReflectliteValue.parts x)
   | unsupported (.noEntry "extern/(internal/reflectlite.Value).Set.zeroValue")
  if fl / ReflectliteValue.flagAddr % 2 == 0 then unsupported (.noEntry "extern/(internal/reflectlite.Value).Set.unaddressable")
  let val ← loadVar src b
  if ← Rtype.directlyAssignable dst src then storeVar dst a val
  else if ← Rtype.implements dst src then
   if (← Rtype.kind src) == 20 then
    match val with
    | .nilIface => unsupported (.noEntry "extern/reflectlite: a nil value of one interface type handed on as a value of another")
    | _ => storeVar dst a val
   else storeVar dst a (.iface src val)
  else panicString ("reflectlite.Set: value of type " ++ (← Rtype.spelt src) ++ " is not assignable to type " ++ (← Rtype.spelt dst))
  pure (.tuple #[])) := rfl
theorem Zyk (a : Addr) (w : World) : (ReflectliteValue.parts (.agg #[.pointer (some ⟨1,47,none⟩),.pointer (some a),.int .u64 386])).run Tryz.prog w = .ok (some (47,a,386)) w := by kernel_rfl
theorem Ya5 (a : Addr) (w : World) : (ReflectliteValue.parts (.agg #[.pointer (some ⟨1,47,none⟩),.pointer (some a),.int .u64 130])).run Tryz.prog w = .ok (some (47,a,130)) w := by kernel_rfl
theorem Zxk (w : World) : (Rtype.directlyAssignable 47 47).run Tryz.prog w = .ok true w := by kernel_rfl
theorem Ydv (ta b : Addr) (n : Int) (old : Value) (W : World) (hb : W.cell? b = some (.int .i64 n)) (ht : W.cell? ta = some old) (hf : W.frozen? ta = false) :
  (ReflectliteValue.set #[.agg #[.pointer (some ⟨1,47,none⟩),.pointer (some ta),.int .u64 386],.agg #[.pointer (some ⟨1,47,none⟩),.pointer (some b),.int .u64 130]]).run Tryz.prog W
   = .ok (.tuple #[]) (W.setCell ta (.int .i64 n)) := by
 rw [rls]
 simp only [Sem.run_bind,Zyk,Ya5,Result.andThen]
 simp [ReflectliteValue.flagAddr,loadVar,isAgg,underlying,Tryz.underlying47,hb,Result.andThen,Zxk,storeVar,Value.cells,storeCells,Addr.add]
 rw [run_store Tryz.prog W ta _ _ (by rfl)]
 simp [ht,hf]
theorem Yct (v : Value) (xT : TypeId) (w : World) : (Instr.typeAssert (.iface 278 v) xT 326 true).run Tryz.prog w = .ok (.tuple #[.nilIface,.bool false]) w :=
 run_typeAssert_lacksB Tryz.underlying326 (by kernel_rfl) (by kernel_rfl) v xT w
theorem Zp2 (v : Value) (xT : TypeId) (w : World) : (Instr.typeAssert (.iface 278 v) xT 274 true).run Tryz.prog w = .ok (.tuple #[.iface 278 v,.bool true]) w :=
 run_typeAssert_hasB Tryz.underlying274 (by kernel_rfl) v xT w
theorem Zda (f : Addr) (w : World) : (Go.method 463 278 (.pointer (some f)) "Unwrap").run Tryz.prog w = .ok (267, .pointer (some f)) w := by kernel_rfl
theorem Zik (f : Addr) (w : World) : (nilAhead 463 278 (.pointer (some f)) "Unwrap").run Tryz.prog w = .ok (some false) w := by kernel_rfl
theorem Zdr (f : Addr) (n : Int) (w : World) (hc : w.cell? f = some (.int .i64 n)) : Calls Tryz.prog 267 #[.pointer (some f)] w fun e w' => e = .returned (.iface 47 (.int .i64 n)) ∧ w = w' := by
 have hc0 : w.cell? (f.add 0) = some (.int .i64 n) := hc
 go_enter Tryz.func267,Tryz.ntmps267
 go_wp2
 go_ret
 exact ⟨rfl,rfl⟩
end Go.Proofs.YtdkhbegheognnaaGreatDoor.Err

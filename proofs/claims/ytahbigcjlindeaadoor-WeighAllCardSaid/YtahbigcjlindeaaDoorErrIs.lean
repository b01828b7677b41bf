/- errors.Is at a target of api.Errno, and errors.As at a target of **api.Fault, of the errors that the program makes: nil, an Errno, a fault. Go's own text, walked. Conditions: errors.errorType holds the type error; the fault's first cell is known. -/
import Derived.Test.YtahbigcjlindeaaDoorErrAs
namespace Go
section
variable {P : Program} (w : World)

theorem run_equalIn_iface_int (d : Nat) {ti tn : TypeId} {ms : Array (String × TypeId)} {i : TypeInfo} {k : IntKind} (a b : Int)
    (hi : P.underlying ti = some (.interface ms)) (hn : P.underlying tn = some (.int k)) (hinfo : P.info? tn = some i) (hcomp : i.comparable = true) :
    (Op.equalIn (d + 2) ti (.iface tn (.int k a)) (.iface tn (.int k b))).run P w = .ok (a == b) w := by
  simp [Op.equalIn, run_underlying hi, run_underlying hn, typeInfo, hinfo, hcomp]

/-- 'x == y', both interface values of ONE integer type: as the numbers are. -/
theorem run_eql_iface_int {ti tn : TypeId} {ms : Array (String × TypeId)} {i : TypeInfo} {k : IntKind} (a b : Int)
    (hi : P.underlying ti = some (.interface ms)) (hn : P.underlying tn = some (.int k)) (hinfo : P.info? tn = some i) (hcomp : i.comparable = true) :
    (binOp .eql ti (.iface tn (.int k a)) (.iface tn (.int k b))).run P w = .ok (.bool (a == b)) w := by
  simp only [binOp]
  simp [Op.equal, Op.maxDepth, run_equalIn_iface_int w 9998 a b hi hn hinfo hcomp]
end
end Go
namespace Go.Proofs.YtahbigcjlindeaaDoor.Err
open Go.RowKit Go.Extern.Stop Go.Stop Go.Extern

/-! ### closed facts -/
theorem callComparable (w : World) : (callFunc 69 #[.agg #[.pointer (some ⟨4, 30, none⟩)]]).run Tryd.prog w = .ok (.value (.bool true)) w := by kernel_rfl
theorem methodComparable (h : Value) (w : World) : (Go.method 231 69 (.agg #[h]) "Comparable").run Tryd.prog w = .ok (69, .agg #[h]) w := by kernel_rfl
theorem compE : (Tryd.prog.info? 30).map (·.comparable) = some true := by kernel_rfl
theorem noIsF (v : Value) (xT : TypeId) (w : World) : (Instr.typeAssert (.iface 48 v) xT 80 true).run Tryd.prog w = .ok (.tuple #[.nilIface, .bool false]) w :=
  run_typeAssert_lacksB Tryd.underlying80 (by kernel_rfl) (by kernel_rfl) v xT w
theorem noIsE (v : Value) (xT : TypeId) (w : World) : (Instr.typeAssert (.iface 30 v) xT 80 true).run Tryd.prog w = .ok (.tuple #[.nilIface, .bool false]) w :=
  run_typeAssert_lacksB Tryd.underlying80 (by kernel_rfl) (by kernel_rfl) v xT w
theorem noAsE (v : Value) (xT : TypeId) (w : World) : (Instr.typeAssert (.iface 30 v) xT 73 true).run Tryd.prog w = .ok (.tuple #[.nilIface, .bool false]) w :=
  run_typeAssert_lacksB Tryd.underlying73 (by kernel_rfl) (by kernel_rfl) v xT w
theorem noUnwrapE (v : Value) (xT : TypeId) (w : World) : (Instr.typeAssert (.iface 30 v) xT 76 true).run Tryd.prog w = .ok (.tuple #[.nilIface, .bool false]) w :=
  run_typeAssert_lacksB Tryd.underlying76 (by kernel_rfl) (by kernel_rfl) v xT w
theorem noUnwrapsE (v : Value) (xT : TypeId) (w : World) : (Instr.typeAssert (.iface 30 v) xT 78 true).run Tryd.prog w = .ok (.tuple #[.nilIface, .bool false]) w :=
  run_typeAssert_lacksB Tryd.underlying78 (by kernel_rfl) (by kernel_rfl) v xT w

set_option maxRecDepth 100000 in
/-- errors.Is of nil. -/
theorem is_nil (n : Int) (w : World) : Calls Tryd.prog 21 #[.nilIface, .iface 30 (.int .i64 n)] w fun e w' => e = .returned (.bool false) ∧ w = w' := by
  have hn := run_eql_iface_nil_left (P := Tryd.prog) w 30 (.int .i64 n) Tryd.underlying24
  go_enter Tryd.func21, Tryd.ntmps21
  go_wp2
  go_ret
  exact ⟨rfl, rfl⟩
set_option maxRecDepth 100000 in
/-- errors.Is of an Errno, at the same one. -/
theorem is_errno (n : Int) (w : World) : Calls Tryd.prog 21 #[.iface 30 (.int .i64 n), .iface 30 (.int .i64 n)] w fun e w' => e = .returned (.bool true) ∧ w = w' := by
  obtain ⟨i, hi, hcmp⟩ := Option.map_eq_some_iff.1 compE
  have h8 := @run_callFunc_extern Tryd.prog 26 _ ReflectliteType.typeOf Tryd.func26 (by kernel_rfl) (by kernel_rfl) (by kernel_rfl) (by kernel_rfl)
  have h32 := callComparable
  have tT := typeOfE
  have mR := methodComparable
  have heq : (binOp .eql 24 (.iface 30 (.int .i64 n)) (.iface 30 (.int .i64 n))).run Tryd.prog w = .ok (.bool true) w := by
    rw [run_eql_iface_int (P := Tryd.prog) w n n Tryd.underlying24 Tryd.underlying30 hi hcmp]; simp
  go_enter Tryd.func21, Tryd.ntmps21
  go_wp2
  refine wp_loop_rounds 1 ?_
  rw [rounds_succ]
  go_wp2
  go_ret
  exact ⟨rfl, rfl⟩
set_option maxRecDepth 100000 in
set_option maxHeartbeats 1000000 in
/-- errors.Is of a fault: is its number that? -/
theorem is_fault (f : Addr) (n m : Int) (w : World) (hc : w.cell? f = some (.int .i64 n)) : Calls Tryd.prog 21 #[.iface 48 (.pointer (some f)), .iface 30 (.int .i64 m)] w fun e w' => e = .returned (.bool (n == m)) ∧ w = w' := by
  obtain ⟨i, hi, hcmp⟩ := Option.map_eq_some_iff.1 compE
  have h8 := @run_callFunc_extern Tryd.prog 26 _ ReflectliteType.typeOf Tryd.func26 (by kernel_rfl) (by kernel_rfl) (by kernel_rfl) (by kernel_rfl)
  have h32 := callComparable
  have tT := typeOfE
  have mR := methodComparable
  have nF := noIsF
  have nE := noIsE
  have uF := unwrapF
  have uE := noUnwrapE
  have vE := noUnwrapsE
  have mU := methodUnwrapF
  have nU := nilAheadF
  have hty := run_eql_iface_types (P := Tryd.prog) 48 30 (.pointer (some f)) (.int .i64 m) Tryd.underlying24 (by decide) w
  have heq := run_eql_iface_int (P := Tryd.prog) w n m Tryd.underlying24 Tryd.underlying30 hi hcmp
  cases hb : (n == m) with
  | true =>
    rw [hb] at heq
    have HB := hb
    clear hb
    go_enter Tryd.func21, Tryd.ntmps21
    go_wp2
    refine wp_loop_rounds 2 ?_
    rw [rounds_succ]
    go_wp2_with (go_at_call 63; refine (unwrap_any f n _ hc).mono ?_; rintro e w' ⟨rfl, rfl⟩)
    rw [rounds_succ]
    go_wp2
    go_ret
    exact ⟨rfl, rfl⟩
  | false =>
    rw [hb] at heq
    go_enter Tryd.func21, Tryd.ntmps21
    go_wp2
    refine wp_loop_rounds 2 ?_
    rw [rounds_succ]
    go_wp2_with (go_at_call 63; refine (unwrap_any f n _ hc).mono ?_; rintro e w' ⟨rfl, rfl⟩)
    rw [rounds_succ]
    go_wp2
    go_ret
    exact ⟨rfl, rfl⟩
end Go.Proofs.YtahbigcjlindeaaDoor.Err

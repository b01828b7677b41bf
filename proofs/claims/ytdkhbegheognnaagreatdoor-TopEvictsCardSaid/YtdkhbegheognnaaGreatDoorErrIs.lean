/- Part of the proof of TopEvicts (ErrIs). -/
import Derived.Test.YtdkhbegheognnaaGreatDoorErrAs
namespace Go
section
variable {P : Program} (w : World)
theorem Zby (d : Nat) {ti tn : TypeId} {ms : Array (String × TypeId)} {i : TypeInfo} {k : IntKind} (a b : Int)
  (hi : P.underlying ti = some (.interface ms)) (hn : P.underlying tn = some (.int k)) (hinfo : P.info? tn = some i) (hcomp : i.comparable = true) :
  (Op.equalIn (d + 2) ti (.iface tn (.int k a)) (.iface tn (.int k b))).run P w = .ok (a == b) w := by
 simp [Op.equalIn,run_underlying hi,run_underlying hn,typeInfo,hinfo,hcomp]
theorem Kg {ti tn : TypeId} {ms : Array (String × TypeId)} {i : TypeInfo} {k : IntKind} (a b : Int)
  (hi : P.underlying ti = some (.interface ms)) (hn : P.underlying tn = some (.int k)) (hinfo : P.info? tn = some i) (hcomp : i.comparable = true) :
  (binOp .eql ti (.iface tn (.int k a)) (.iface tn (.int k b))).run P w = .ok (.bool (a == b)) w := by
 simp only [binOp]
 simp [Op.equal,Op.maxDepth,Zby w 9998 a b hi hn hinfo hcomp]
end
end Go
namespace Go.Proofs.YtdkhbegheognnaaGreatDoor.Err
open Go.RowKit Go.Extern.Stop Go.Stop Go.Extern
theorem callComparable (w : World) : (callFunc 256 #[.agg #[.pointer (some ⟨1,47,none⟩)]]).run Tryz.prog w = .ok (.value (.bool true)) w := by kernel_rfl
theorem methodComparable (h : Value) (w : World) : (Go.method 463 269 (.agg #[h]) "Comparable").run Tryz.prog w = .ok (256, .agg #[h]) w := by kernel_rfl
theorem compE : (Tryz.prog.info? 47).map (·.comparable) = some true := by kernel_rfl
theorem Ycu (v : Value) (xT : TypeId) (w : World) : (Instr.typeAssert (.iface 278 v) xT 271 true).run Tryz.prog w = .ok (.tuple #[.nilIface,.bool false]) w :=
 run_typeAssert_lacksB Tryz.underlying271 (by kernel_rfl) (by kernel_rfl) v xT w
theorem noIsE (v : Value) (xT : TypeId) (w : World) : (Instr.typeAssert (.iface 47 v) xT 271 true).run Tryz.prog w = .ok (.tuple #[.nilIface,.bool false]) w :=
 run_typeAssert_lacksB Tryz.underlying271 (by kernel_rfl) (by kernel_rfl) v xT w
theorem noUnwrapE (v : Value) (xT : TypeId) (w : World) : (Instr.typeAssert (.iface 47 v) xT 274 true).run Tryz.prog w = .ok (.tuple #[.nilIface,.bool false]) w :=
 run_typeAssert_lacksB Tryz.underlying274 (by kernel_rfl) (by kernel_rfl) v xT w
theorem noUnwrapsE (v : Value) (xT : TypeId) (w : World) : (Instr.typeAssert (.iface 47 v) xT 275 true).run Tryz.prog w = .ok (.tuple #[.nilIface,.bool false]) w :=
 run_typeAssert_lacksB Tryz.underlying275 (by kernel_rfl) (by kernel_rfl) v xT w
set_option maxRecDepth 100000 in
theorem is_nil (n : Int) (w : World) : Calls Tryz.prog 84 #[.nilIface,.iface 47 (.int .i64 n)] w fun e w' => e = .returned (.bool false) ∧ w = w' := by
 have hn := run_eql_iface_nil_left (P:=Tryz.prog) w 47 (.int .i64 n) Tryz.underlying191
 go_enter Tryz.func84,Tryz.ntmps84
 go_wp2
 go_ret
 exact ⟨rfl,rfl⟩
set_option maxRecDepth 100000 in
theorem is_errno (n : Int) (w : World) : Calls Tryz.prog 84 #[.iface 47 (.int .i64 n),.iface 47 (.int .i64 n)] w fun e w' => e = .returned (.bool true) ∧ w = w' := by
 obtain ⟨i,hi,hcmp⟩ := Option.map_eq_some_iff.1 compE
 have h8 := @run_callFunc_extern Tryz.prog 128 _ ReflectliteType.typeOf Tryz.func128 (by kernel_rfl) (by kernel_rfl) (by kernel_rfl) (by kernel_rfl)
 have h32 := callComparable
 have tT := typeOfE
 have mR := methodComparable
 have heq : (binOp .eql 191 (.iface 47 (.int .i64 n)) (.iface 47 (.int .i64 n))).run Tryz.prog w = .ok (.bool true) w := by
  rw [Kg (P:=Tryz.prog) w n n Tryz.underlying191 Tryz.underlying47 hi hcmp]; simp
 go_enter Tryz.func84,Tryz.ntmps84
 go_wp2
 refine wp_loop_rounds 1 ?_
 rw [rounds_succ]
 go_wp2
 go_ret
 exact ⟨rfl,rfl⟩
set_option maxRecDepth 100000 in
set_option maxHeartbeats 1000000 in
theorem is_fault (f : Addr) (n m : Int) (w : World) (hc : w.cell? f = some (.int .i64 n)) : Calls Tryz.prog 84 #[.iface 278 (.pointer (some f)),.iface 47 (.int .i64 m)] w fun e w' => e = .returned (.bool (n == m)) ∧ w = w' := by
 obtain ⟨i,hi,hcmp⟩ := Option.map_eq_some_iff.1 compE
 have h8 := @run_callFunc_extern Tryz.prog 128 _ ReflectliteType.typeOf Tryz.func128 (by kernel_rfl) (by kernel_rfl) (by kernel_rfl) (by kernel_rfl)
 have h32 := callComparable
 have tT := typeOfE
 have mR := methodComparable
 have nF := Ycu
 have nE := noIsE
 have uF := Zp2
 have uE := noUnwrapE
 have vE := noUnwrapsE
 have mU := Zda
 have nU := Zik
 have hty := run_eql_iface_types (P:=Tryz.prog) 278 47 (.pointer (some f)) (.int .i64 m) Tryz.underlying191 (by decide) w
 have heq := Kg (P:=Tryz.prog) w n m Tryz.underlying191 Tryz.underlying47 hi hcmp
 cases hb : (n == m) with
 | true =>
  rw [hb] at heq
  have HB := hb
  clear hb
  go_enter Tryz.func84,Tryz.ntmps84
  go_wp2
  refine wp_loop_rounds 2 ?_
  rw [rounds_succ]
  go_wp2_with (go_at_call 267; refine (Zdr f n _ hc).mono ?_; rintro e w' ⟨rfl,rfl⟩)
  rw [rounds_succ]
  go_wp2
  go_ret
  exact ⟨rfl,rfl⟩
 | false =>
  rw [hb] at heq
  go_enter Tryz.func84,Tryz.ntmps84
  go_wp2
  refine wp_loop_rounds 2 ?_
  rw [rounds_succ]
  go_wp2_with (go_at_call 267; refine (Zdr f n _ hc).mono ?_; rintro e w' ⟨rfl,rfl⟩)
  rw [rounds_succ]
  go_wp2
  go_ret
  exact ⟨rfl,rfl⟩
end Go.Proofs.YtdkhbegheognnaaGreatDoor.Err

/- Part of the proof of TopEvicts (ErrAs). -/
import Derived.Test.YtdkhbegheognnaaGreatDoorErr
namespace Go.Proofs.YtdkhbegheognnaaGreatDoor.Err
open Go.RowKit Go.Extern.Stop Go.Stop Go.Extern
set_option maxRecDepth 100000 in
set_option maxHeartbeats 4000000 in
theorem Zz8 (f t : Addr) (n : Int) (old : Value) (w : World) (hg : ErrType w) (hc : w.cell? f = some (.int .i64 n)) (ht0 : w.cell? t = some old) (hf0 : w.frozen? t = false) :
  Calls Tryz.prog 177 #[.iface 278 (.pointer (some f)),.iface 267 (.pointer (some t))] w fun ev w' => ev = .returned (.bool true) ∧ w' = ((((w.alloc (.cells #[.pointer (some t)] 267)).alloc (.cells #[.pointer (some ⟨1,267,none⟩),.pointer (some ⟨w.heap.size,0,none⟩),.int .u64 150] 310)).alloc (.cells #[.pointer (some ⟨1,267,none⟩),.pointer (some ⟨w.heap.size,0,none⟩),.int .u64 150] 310)).alloc (.cells #[.int .i64 n] 47)).setCell t (.int .i64 n) := by
 have h6 := @run_callFunc_extern Tryz.prog 202 _ (fun args => ReflectliteValue.unpack (args.getD 0 (.tuple #[]))) Tryz.func202 (by kernel_rfl) (by kernel_rfl) (by kernel_rfl) (by kernel_rfl)
 have h7 := @run_callFunc_extern Tryz.prog 203 _ (ReflectliteValue.methodAny (ReflectliteValue.valueError "reflectlite.Value.Type" 0) (fun t _ _ _ => ReflectliteType.toType t)) Tryz.func203 (by kernel_rfl) (by kernel_rfl) (by kernel_rfl) (by kernel_rfl)
 have h8 := @run_callFunc_extern Tryz.prog 204 _ (ReflectliteValue.method (ReflectliteValue.valueError "reflectlite.Value.IsNil" 0) ReflectliteValue.isNil) Tryz.func204 (by kernel_rfl) (by kernel_rfl) (by kernel_rfl) (by kernel_rfl)
 have h27 := @run_callFunc_extern Tryz.prog 240 _ (ReflectliteType.abiMethod fun t => do pure (.int .u8 (← Rtype.kind t))) Tryz.func240 (by kernel_rfl) (by kernel_rfl) (by kernel_rfl) (by kernel_rfl)
 have h37 := @run_callFunc_extern Tryz.prog 257 _ (ReflectliteType.method ReflectliteType.elem) Tryz.func257 (by kernel_rfl) (by kernel_rfl) (by kernel_rfl) (by kernel_rfl)
 have h38 := @run_callFunc_extern Tryz.prog 258 _ (ReflectliteType.relation "Implements" ReflectliteType.implements_) Tryz.func258 (by kernel_rfl) (by kernel_rfl) (by kernel_rfl) (by kernel_rfl)
 have h10 := @run_callFunc_extern Tryz.prog 128 _ ReflectliteType.typeOf Tryz.func128 (by kernel_rfl) (by kernel_rfl) (by kernel_rfl) (by kernel_rfl)
 have h35 := @run_callFunc_extern Tryz.prog 255 _ (ReflectliteType.relation "AssignableTo" ReflectliteType.assignableTo) Tryz.func255 (by kernel_rfl) (by kernel_rfl) (by kernel_rfl) (by kernel_rfl)
 have h11 := @run_callFunc_extern Tryz.prog 218 _ (ReflectliteValue.method (ReflectliteValue.valueError "reflectlite.Value.Elem" 0) ReflectliteValue.elem) Tryz.func218 (by kernel_rfl) (by kernel_rfl) (by kernel_rfl) (by kernel_rfl)
 have h12 := @run_callFunc_extern Tryz.prog 219 _ ReflectliteValue.set Tryz.func219 (by kernel_rfl) (by kernel_rfl) (by kernel_rfl) (by kernel_rfl)
 have tOF := Zzh
 have tOE := typeOfE
 have mA := Zdj
 have aF := Zti
 have aE := Zth
 have vE := Zww
 have f6 := Zsl
 have f7 := Ybq
 have mK := Znx
 have mE := Znw
 have mI := Zey
 have kP := Yax
 have kE := Yco
 have eP := Yaj
 have iE := Zlc
 have nA := Yct
 have uF := Zp2
 have mU := Zda
 have nU := Zik
 have n8 := Zx0 ⟨w.heap.size,0,none⟩ t ((w.alloc (.cells #[.pointer (some t)] 267)).alloc (.cells #[.pointer (some ⟨1,267,none⟩),.pointer (some ⟨w.heap.size,0,none⟩),.int .u64 150] 310)) (by simp)
 unfold ErrType at hg
 have hlt : 0 < w.heap.size := by
  rcases Nat.eq_zero_or_pos w.heap.size with h0 | h
  ·simp [World.cell?,h0] at hg
  ·exact h
 have hg2 : ((w.alloc (.cells #[.pointer (some t)] 267)).alloc (.cells #[.pointer (some ⟨1,267,none⟩),.pointer (some ⟨w.heap.size,0,none⟩),.int .u64 150] 310)).cell? ⟨0,0,none⟩ = some (.iface 269 (.agg #[.pointer (some ⟨1,191,none⟩)])) := by
  rw [World.cell?_alloc_lt _ _ ⟨0,0,none⟩ (by simp),World.cell?_alloc_lt _ _ ⟨0,0,none⟩ hlt]; exact hg
 have htl : t.block < w.heap.size := by
  rcases Nat.lt_or_ge t.block w.heap.size with h | h
  ·exact h
  ·simp [World.cell?,Array.getElem?_eq_none h] at ht0
 have hfl : f.block < w.heap.size := by
  rcases Nat.lt_or_ge f.block w.heap.size with h | h
  ·exact h
  ·simp [World.cell?,Array.getElem?_eq_none h] at hc
 have hc3 : (((w.alloc (.cells #[.pointer (some t)] 267)).alloc (.cells #[.pointer (some ⟨1,267,none⟩),.pointer (some ⟨w.heap.size,0,none⟩),.int .u64 150] 310)).alloc (.cells #[.pointer (some ⟨1,267,none⟩),.pointer (some ⟨w.heap.size,0,none⟩),.int .u64 150] 310)).cell? f = some (.int .i64 n) := by
  rw [World.cell?_alloc_lt _ _ f (by simp; omega),World.cell?_alloc_lt _ _ f (by simp; omega),World.cell?_alloc_lt _ _ f hfl]; exact hc
 have el := Zxr ⟨w.heap.size,0,none⟩ t (((w.alloc (.cells #[.pointer (some t)] 267)).alloc (.cells #[.pointer (some ⟨1,267,none⟩),.pointer (some ⟨w.heap.size,0,none⟩),.int .u64 150] 310)).alloc (.cells #[.pointer (some ⟨1,267,none⟩),.pointer (some ⟨w.heap.size,0,none⟩),.int .u64 150] 310)) (by rw [World.cell?_alloc_lt _ _ ⟨w.heap.size,0,none⟩ (by simp; omega)]; simp)
 have st := Ydv t ⟨w.heap.size + 1 + 1 + 1,0,none⟩ n old ((((w.alloc (.cells #[.pointer (some t)] 267)).alloc (.cells #[.pointer (some ⟨1,267,none⟩),.pointer (some ⟨w.heap.size,0,none⟩),.int .u64 150] 310)).alloc (.cells #[.pointer (some ⟨1,267,none⟩),.pointer (some ⟨w.heap.size,0,none⟩),.int .u64 150] 310)).alloc (.cells #[.int .i64 n] 47))
  (by rw [World.cell?_alloc_at _ _ _ _ (by simp)]; rfl)
  (by rw [World.cell?_alloc_lt _ _ t (by simp; omega),World.cell?_alloc_lt _ _ t (by simp; omega),World.cell?_alloc_lt _ _ t (by simp; omega),World.cell?_alloc_lt _ _ t htl]; exact ht0)
  (by rw [World.frozen?_alloc_old _ _ t (by simp; omega),World.frozen?_alloc_old _ _ t (by simp; omega),World.frozen?_alloc_old _ _ t (by simp; omega),World.frozen?_alloc_old _ _ t (Nat.ne_of_lt htl)]; exact hf0)
 go_enter Tryz.func177,Tryz.ntmps177
 go_wp2
 refine wp_loop_rounds 2 ?_
 rw [rounds_succ]
 go_wp2_with (go_at_call 267; refine (Zdr f n _ hc3).mono ?_; rintro e w' ⟨rfl,rfl⟩)
 rw [rounds_succ]
 go_wp2
 go_ret
 exact ⟨rfl,rfl⟩
theorem number_any (f : Addr) (n : Int) (w : World) (hg : ErrType w) (hc : w.cell? f = some (.int .i64 n)) :
  Calls Tryz.prog 125 #[.iface 278 (.pointer (some f))] w fun e w' => e = .returned (.int .i64 n) ∧ Below w.heap.size w w' := by
 have hlt : 0 < w.heap.size := by
  rcases Nat.eq_zero_or_pos w.heap.size with h0 | h
  ·simp [ErrType,World.cell?,h0] at hg
  ·exact h
 have hfl : f.block < w.heap.size := by
  rcases Nat.lt_or_ge f.block w.heap.size with h | h
  ·exact h
  ·simp [World.cell?,Array.getElem?_eq_none h] at hc
 have hgA : ErrType (w.alloc (.cells #[.int .i64 0] 47)) := by
  unfold ErrType at hg ⊢
  rw [World.cell?_alloc_lt _ _ ⟨0,0,none⟩ hlt]; exact hg
 have hcA : (w.alloc (.cells #[.int .i64 0] 47)).cell? f = some (.int .i64 n) := by
  rw [World.cell?_alloc_lt _ _ f hfl]; exact hc
 go_enter Tryz.func125,Tryz.ntmps125
 go_wp2_with (go_at_call 177; refine (Zz8 f _ n (.int .i64 0) _ hgA hcA (by simp) (by simp)).mono ?_; rintro e w' ⟨rfl,rfl⟩)
 go_ret
 exact ⟨rfl,(((((Below.refl _ _).alloc (Nat.le_refl _) _).alloc (by simp) _).alloc (by simp; omega) _).alloc (by simp; omega) _).alloc (by simp; omega) _⟩
end Go.Proofs.YtdkhbegheognnaaGreatDoor.Err

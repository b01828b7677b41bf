/- Part of the proof of TopEvicts, joined by a program of the session: Erx. -/
import Derived.Test.YtdkhbegheognnaaGreatDoorErrIs
import Derived.Test.YtdkhbegheognnaaGreatDoorJ01
import Derived.Test.YtdkhbegheognnaaGreatDoorJ07
namespace Go.Proofs.YtdkhbegheognnaaGreatDoor.W
open Go.RowKit Go.Maps Go.Extern Go.Extern.Stop Go.Stop
open _root_.Go.Proofs.Tryz renaming prog → Ydz, ntmps126 → Yd0, func126 → Yd1
set_option maxHeartbeats 4000000
set_option maxRecDepth 100000
theorem Zhl (n k m : Int) (w : World) (hn : n ≠ 0) :
  Calls Ydz 131 #[.int .i64 n,.int .i64 k,.int .i64 m] w fun e w' => e = .returned (.iface 278 (Pt w.heap.size)) ∧ w' = w.alloc (.cells #[.int .i64 n,.int .i64 k,.int .i64 m] 280) := by
 have hb : (n == 0) = false := beq_eq_false_iff_ne.2 hn
 go_enter Tryz.func131,Tryz.ntmps131
 go_wp2
 go_ret
 exact ⟨rfl,rfl⟩
theorem Zqb (k x c : Int) (w : World) (h0 : 0 ≤ x) (h1 : 0 ≤ c) (h2 : c ≤ 512) (h3 : x ≤ c) :
  Calls Ydz 126 #[.int .i64 k,.int .i64 x,.int .i64 c] w fun e w' => e = .returned .nilIface ∧ w' = w := by
 have d1 : ¬ (x < 0) := by omega
 have d2 : ¬ (c < 0) := by omega
 have d3 : ¬ (4611686018427387903 < c) := by omega
 have d4 : ¬ (c < x) := by omega
 have d5 : ¬ (2147483648 < x) := by omega
 clear h0 h1 h2 h3
 go_enter Yd1,Yd0
 go_wp2
 go_ret
 exact ⟨rfl,rfl⟩
theorem Ztf (k x c n : Int) (w : World) (h1 : 0 ≤ c) (h2 : c ≤ 512) (hn : n = Kc x c) (hn0 : n ≠ 0) :
  Calls Ydz 126 #[.int .i64 k,.int .i64 x,.int .i64 c] w fun e w' => e = .returned (.iface 278 (Pt w.heap.size)) ∧ w' = w.alloc (.cells #[.int .i64 n,.int .i64 k,.int .i64 x] 280) := by
 have W1 := Ydy (fun W => Zhl 1 k x W (by decide))
 have W4 := Ydy (fun W => Zhl 4 k x W (by decide))
 have d2 : ¬ (c < 0) := by omega
 have d3 : ¬ (4611686018427387903 < c) := by omega
 unfold Kc at hn
 by_cases h0 : x < 0
 ·rw [if_pos h0] at hn
  subst hn
  clear hn0 h1 h2
  go_enter Yd1,Yd0
  go_wp2_with fail
  refine (W1.out _).mono ?_
  rintro e w' ⟨rfl,rfl⟩
  go_wp2
  go_ret
  exact ⟨rfl,rfl⟩
 ·rw [if_neg h0] at hn
  by_cases h3 : c < x
  ·rw [if_pos h3] at hn
   subst hn
   clear hn0 h1 h2
   go_enter Yd1,Yd0
   go_wp2_with fail
   refine (W4.out _).mono ?_
   rintro e w' ⟨rfl,rfl⟩
   go_wp2
   go_ret
   exact ⟨rfl,rfl⟩
  ·rw [if_neg h3] at hn
   exact absurd hn hn0
theorem Zz9 (t : Addr) (w : World) : Calls Ydz 177 #[.nilIface,.iface 267 (.pointer (some t))] w fun e w' => e = .returned (.bool false) ∧ w' = w := by
 go_enter Tryz.func177,Tryz.ntmps177
 go_wp2
 go_ret
 exact ⟨rfl,rfl⟩
theorem Zn0 (w : World) : Calls Ydz 125 #[.nilIface] w fun e w' => e = .returned (.int .i64 0) ∧ Zb No w w' := by
 have A := Ydy (fun t W => Zz9 t W)
 go_enter Tryz.func125,Tryz.ntmps125
 go_wp2_with fail
 refine (A.out _ _).mono ?_
 rintro e w' ⟨rfl,rfl⟩
 go_wp2
 go_ret
 exact ⟨rfl,(Zb.refl No w).alloc _⟩
theorem Zjz (f : Nat) (n : Int) (w : World) (hg : Err.ErrType w) (hc : w.cell? ⟨f,0,none⟩ = some (.int .i64 n)) : Calls Ydz 125 #[.iface 278 (Pt f)] w fun e w' => e = .returned (.int .i64 n) ∧ Zb No w w' :=
 (Err.number_any ⟨f,0,none⟩ n w hg hc).mono fun _ _ h => ⟨h.1,Zb.of_below h.2⟩
theorem Zuw (n m : Int) (hne : n ≠ m) (w : World) : Calls Ydz 84 #[.iface 47 (.int .i64 n),.iface 47 (.int .i64 m)] w fun e w' => e = .returned (.bool false) ∧ w = w' := by
 obtain ⟨i,hi,hcmp⟩ := Option.map_eq_some_iff.1 Err.compE
 have h8 := @run_callFunc_extern Ydz 128 _ ReflectliteType.typeOf Tryz.func128 (by kernel_rfl) (by kernel_rfl) (by kernel_rfl) (by kernel_rfl)
 have h32 := Err.callComparable
 have tT := Err.typeOfE
 have mR := Err.methodComparable
 have nE := Err.noIsE
 have uE := Err.noUnwrapE
 have vE := Err.noUnwrapsE
 have heq : (binOp .eql 191 (.iface 47 (.int .i64 n)) (.iface 47 (.int .i64 m))).run Ydz w = .ok (.bool false) w := by
  rw [Kg (P:=Ydz) w n m Tryz.underlying191 Tryz.underlying47 hi hcmp]; simp [hne]
 clear hne
 go_enter Tryz.func84,Tryz.ntmps84
 go_wp2
 refine wp_loop_rounds 1 ?_
 rw [rounds_succ]
 go_wp2
 go_ret
 exact ⟨rfl,rfl⟩
theorem Zuv (n m : Int) (w : World) : Calls Ydz 84 #[.iface 47 (.int .i64 n),.iface 47 (.int .i64 m)] w fun e w' => e = .returned (.bool (n == m)) ∧ w' = w := by
 by_cases h : n = m
 ·subst h
  exact (Err.is_errno n w).mono fun _ _ q => ⟨by rw [q.1]; simp,q.2.symm⟩
 ·exact (Zuw n m h w).mono fun _ _ q => ⟨by rw [q.1]; simp [h],q.2.symm⟩
end Go.Proofs.YtdkhbegheognnaaGreatDoor.W

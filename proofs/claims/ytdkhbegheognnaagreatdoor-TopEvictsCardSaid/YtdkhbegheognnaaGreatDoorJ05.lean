/- Part of the proof of TopEvicts, joined by a program of the session: Dq Dqm Ring Dqa Dqc. -/
import Derived.Test.YtdkhbegheognnaaGreatDoorJ01
namespace Go.Proofs.YtdkhbegheognnaaGreatDoor.W
open Go.RowKit Go.Maps
open _root_.List renaming mem_append_right → Ydz, map_append → Yd0, mem_append_left → Yd1, mem_cons_of_mem → Yd2, mem_cons_self → Yd3, mem_map → Yd5, mem_append → Yd6, mem_singleton → Yd7, map_cons → Yea, length_append → Yeb, length_cons → Yee, mem_cons → Yef, drop_succ_cons → Yeg, take_succ_cons → Yeh, nodup_cons → Yei, drop_zero → Yej, take_zero → Yek, append_of_mem → Yen, nodup_append → Yeo, map → Yep
open _root_.Go.Proofs.Tryz renaming prog → Yd4, underlying150 → Yec
open _root_.Go.World renaming cell?_setCell_same → Yd8, block_lt_of_cell? → Yd9, cell?_of_block → Yed, setCell → Yel, frozen?_setCell → Yem
set_option maxHeartbeats 4000000
set_option maxRecDepth 100000
variable {nx pv nx' pv' : Nat → Nat → Prop}
variable {z x e k : Nat}
variable {bs A B : List Nat}
variable {w w' : World}
variable {id v W n : Int}
variable {own own' : Nat → Nat}
section
attribute [local go_sem] World.setCell_drew
def P0 (b : Nat) : Value := .pointer (some ⟨b,0,none⟩)
theorem Zcv (x rb c : Nat) (k : Nat) (lk : Nat) (w : World) (hk : k < 3) (c0 : w.cell? ⟨x,0,none⟩ = some (.slice (some ⟨rb,0,none⟩) 3 c)) (hr : w.cell? ⟨rb,k,none⟩ = some (.pointer (some ⟨lk,0,none⟩))) :
  Calls Yd4 109 #[.pointer (some ⟨x,0,none⟩),.int .i64 (k : Int)] w fun e w' => e = .returned (.pointer (some ⟨lk,0,none⟩)) ∧ w = w' := by
 have c0' : w.cell? (Addr.add ⟨x,0,none⟩ 0) = some (.slice (some ⟨rb,0,none⟩) 3 c) := c0
 go_enter Tryz.func109,Tryz.ntmps109
 go_wp2
 go_ret
 exact ⟨rfl,rfl⟩
theorem Zk3 (n : Int) (w : World) (h0 : 0 ≤ n) (h1 : n ≤ 2147483648) : Calls Yd4 110 #[.int .i64 n] w fun e w' => e = .returned (.bool true) ∧ w = w' := by
 go_enter Tryz.func110,Tryz.ntmps110
 go_wp2
 go_ret
 exact ⟨rfl,rfl⟩
theorem Zkx (x rb c : Nat) (k : Nat) (lk : Nat) (n : Int) (w : World) (hk : k < 3) (c0 : w.cell? ⟨x,0,none⟩ = some (.slice (some ⟨rb,0,none⟩) 3 c)) (hr : w.cell? ⟨rb,k,none⟩ = some (.pointer (some ⟨lk,0,none⟩))) (hn : w.cell? ⟨lk,6,none⟩ = some (.int .i64 n)) :
  Calls Yd4 158 #[.pointer (some ⟨x,0,none⟩),.int .i64 (k : Int)] w fun e w' => e = .returned (.int .i64 n) ∧ w = w' := by
 go_enter Tryz.func158,Tryz.ntmps158
 go_wp2_with (go_at_call 109; refine (Zcv x rb c k lk _ hk c0 hr).mono ?_; rintro e w' ⟨rfl,rfl⟩)
 go_ret
 exact ⟨rfl,rfl⟩
theorem Zt0 (x rb c : Nat) (k : Nat) (lk : Nat) (n : Int) (w : World) (hk : k < 3) (c0 : w.cell? ⟨x,0,none⟩ = some (.slice (some ⟨rb,0,none⟩) 3 c)) (hr : w.cell? ⟨rb,k,none⟩ = some (.pointer (some ⟨lk,0,none⟩))) (hn : w.cell? ⟨lk,7,none⟩ = some (.int .i64 n)) :
  Calls Yd4 161 #[.pointer (some ⟨x,0,none⟩),.int .i64 (k : Int)] w fun e w' => e = .returned (.int .i64 n) ∧ w = w' := by
 go_enter Tryz.func161,Tryz.ntmps161
 go_wp2_with (go_at_call 109; refine (Zcv x rb c k lk _ hk c0 hr).mono ?_; rintro e w' ⟨rfl,rfl⟩)
 go_ret
 exact ⟨rfl,rfl⟩
theorem Zq1 (x rb c : Nat) (k : Nat) (lk b : Nat) (n : Int) (w : World) (hk : k < 3) (c0 : w.cell? ⟨x,0,none⟩ = some (.slice (some ⟨rb,0,none⟩) 3 c)) (hr : w.cell? ⟨rb,k,none⟩ = some (.pointer (some ⟨lk,0,none⟩))) (hn : w.cell? ⟨lk,4,none⟩ = some (.pointer (some ⟨b,0,none⟩))) (hb : w.cell? ⟨b,0,none⟩ = some (.int .i64 n)) :
  Calls Yd4 159 #[.pointer (some ⟨x,0,none⟩),.int .i64 (k : Int)] w fun e w' => e = .returned (.int .i64 n) ∧ w = w' := by
 have hb' : w.cell? (Addr.add ⟨b,0,none⟩ 0) = some (.int .i64 n) := hb
 go_enter Tryz.func159,Tryz.ntmps159
 go_wp2_with (go_at_call 109; refine (Zcv x rb c k lk _ hk c0 hr).mono ?_; rintro e w' ⟨rfl,rfl⟩)
 go_ret
 exact ⟨rfl,rfl⟩
theorem Ztn (x rb c : Nat) (k : Nat) (lk b : Nat) (n : Int) (w : World) (hk : k < 3) (c0 : w.cell? ⟨x,0,none⟩ = some (.slice (some ⟨rb,0,none⟩) 3 c)) (hr : w.cell? ⟨rb,k,none⟩ = some (.pointer (some ⟨lk,0,none⟩))) (hn : w.cell? ⟨lk,3,none⟩ = some (.pointer (some ⟨b,0,none⟩))) (hb : w.cell? ⟨b,0,none⟩ = some (.int .i64 n)) :
  Calls Yd4 160 #[.pointer (some ⟨x,0,none⟩),.int .i64 (k : Int)] w fun e w' => e = .returned (.int .i64 n) ∧ w = w' := by
 have hb' : w.cell? (Addr.add ⟨b,0,none⟩ 0) = some (.int .i64 n) := hb
 go_enter Tryz.func160,Tryz.ntmps160
 go_wp2_with (go_at_call 109; refine (Zcv x rb c k lk _ hk c0 hr).mono ?_; rintro e w' ⟨rfl,rfl⟩)
 go_ret
 exact ⟨rfl,rfl⟩
theorem Zmk (w : World) : (zeroValue 155).run Yd4 w = .ok (.pointer none) w := by kernel_rfl
theorem Ya3 (x m b lk n0 : Nat) (f : Int → Option Value) (id n v : Int) (w : World) (hid : I64 id) (c1 : w.cell? ⟨x,1,none⟩ = some (.map (some m))) (hm : Zs w m f n0) (hf : f id = some (P0 b)) (h1 : w.cell? ⟨b,1,none⟩ = some (.int .i64 v)) (h2 : w.cell? ⟨b,2,none⟩ = some (.pointer (some ⟨lk,0,none⟩))) (h5 : w.cell? ⟨lk,5,none⟩ = some (.int .i64 n)) :
  Calls Yd4 114 #[.pointer (some ⟨x,0,none⟩),.int .i64 id] w fun e w' => e = .returned (.tuple #[.int .i64 n,.int .i64 v]) ∧ ∃ nq,w' = w.drewN nq := by
 have hl := hm.get Yec (Zmk w) hid
 rw [hf] at hl
 simp only [Option.getD_some,P0] at hl
 clear hf
 go_enter Tryz.func114,Tryz.ntmps114
 go_wp2
 go_quiet (fail)
 go_wp2
 go_ret2
 exact ⟨rfl,_,rfl⟩
theorem Zls (l e p : Nat) (W n v : Int) (u2 u3 u4 u : Value) (w : World)
  (l3 : w.cell? ⟨l,3,none⟩ = some (.pointer (some ⟨p,0,none⟩))) (l6 : w.cell? ⟨l,6,none⟩ = some (.int .i64 W)) (l7 : w.cell? ⟨l,7,none⟩ = some (.int .i64 n))
  (e1 : w.cell? ⟨e,1,none⟩ = some (.int .i64 v)) (e2 : w.cell? ⟨e,2,none⟩ = some u2) (e3 : w.cell? ⟨e,3,none⟩ = some u3) (e4 : w.cell? ⟨e,4,none⟩ = some u4) (p4 : w.cell? ⟨p,4,none⟩ = some u)  (hel : e ≠ l) (hep : e ≠ p) (hpe : p ≠ e)
  (fl : ∀ j,w.frozen? ⟨l,j,none⟩ = false) (fe : ∀ j,w.frozen? ⟨e,j,none⟩ = false) (fp : ∀ j,w.frozen? ⟨p,j,none⟩ = false)
  (hW : 0 ≤ W ∧ W ≤ 1000000000000) (hn : 0 ≤ n ∧ n ≤ 1000000) (hv : 0 ≤ v ∧ v ≤ 2147483648) :
  Calls Yd4 111 #[.pointer (some ⟨l,0,none⟩),.pointer (some ⟨e,0,none⟩)] w fun r w' => r = .returned (.tuple #[]) ∧ Sm ((((((((w.setCell ⟨e,3,none⟩ (.pointer (some ⟨p,0,none⟩))).setCell ⟨e,4,none⟩ (.pointer (some ⟨l,0,none⟩))).setCell ⟨e,2,none⟩ (.pointer (some ⟨l,0,none⟩))).setCell ⟨p,4,none⟩ (.pointer (some ⟨e,0,none⟩))).setCell ⟨l,3,none⟩ (.pointer (some ⟨e,0,none⟩))).setCell ⟨l,6,none⟩ (.int .i64 (W + v))).setCell ⟨l,7,none⟩ (.int .i64 (n + 1)))) w' := by
 go_enter Tryz.func111,Tryz.ntmps111
 go_wp2
 go_region_with (fail)
 all_goals (try go_wp2)
 generalize hw1 : (Yel _ _ _ : World) = w1
 have HW1 := Ydy hw1
 clear hw1
 have a6 : w1.cell? ⟨l,6,none⟩ = some (.int .i64 W) := by rw [← HW1.out]; exact Zi (Zi (Zi (Zi (Zi l6 (by simp [*])) (by simp [*])) (by simp [*])) (by simp [*])) (by simp [*])
 have a7 : w1.cell? ⟨l,7,none⟩ = some (.int .i64 n) := by rw [← HW1.out]; exact Zi (Zi (Zi (Zi (Zi l7 (by simp [*])) (by simp [*])) (by simp [*])) (by simp [*])) (by simp [*])
 have a1 : w1.cell? ⟨e,1,none⟩ = some (.int .i64 v) := by rw [← HW1.out]; exact Zi (Zi (Zi (Zi (Zi e1 (by simp [*])) (by simp [*])) (by simp [*])) (by simp [*])) (by simp [*])
 have g : ∀ j,w1.frozen? ⟨l,j,none⟩ = false := by intro j; rw [← HW1.out]; simp only [Yem]; exact fl j
 clear l3 l6 l7 e1 e2 e3 e4 p4 fl fe fp
 refine Z4 11 (by kernel_rfl) (by kernel_rfl) ?_
 intro w2 hc2 hf2 hs2 HW2
 simp only [Yeh,Yek,Yeg,Yej]
 repeat still_step
 refine wpStill_nil ?_
 go_wp2
 go_end0
 exact ⟨rfl,by rw [HW1.out,← HW2.out]; exact ⟨rfl,rfl,rfl,rfl⟩⟩
theorem Zhj (l e p q : Nat) (W n v : Int) (u u' : Value) (w : World)
  (e1 : w.cell? ⟨e,1,none⟩ = some (.int .i64 v)) (e2 : w.cell? ⟨e,2,none⟩ = some (.pointer (some ⟨l,0,none⟩))) (e3 : w.cell? ⟨e,3,none⟩ = some (.pointer (some ⟨p,0,none⟩))) (e4 : w.cell? ⟨e,4,none⟩ = some (.pointer (some ⟨q,0,none⟩)))
  (p4 : w.cell? ⟨p,4,none⟩ = some u) (q3 : w.cell? ⟨q,3,none⟩ = some u') (l6 : w.cell? ⟨l,6,none⟩ = some (.int .i64 W)) (l7 : w.cell? ⟨l,7,none⟩ = some (.int .i64 n))
  (fp : w.frozen? ⟨p,4,none⟩ = false) (fq : w.frozen? ⟨q,3,none⟩ = false) (fl : ∀ j,w.frozen? ⟨l,j,none⟩ = false)
  (hW : -1000000000000 ≤ W ∧ W ≤ 1000000000000) (hn : 0 ≤ n ∧ n ≤ 1000000) (hv : 0 ≤ v ∧ v ≤ 2147483648) :
  Calls Yd4 163 #[.pointer (some ⟨e,0,none⟩)] w fun r w' => r = .returned (.tuple #[]) ∧ Sm ((((w.setCell ⟨p,4,none⟩ (.pointer (some ⟨q,0,none⟩))).setCell ⟨q,3,none⟩ (.pointer (some ⟨p,0,none⟩))).setCell ⟨l,6,none⟩ (.int .i64 (W - v))).setCell ⟨l,7,none⟩ (.int .i64 (n - 1))) w' := by
 go_enter Tryz.func163,Tryz.ntmps163
 go_wp2
 refine Z4 16 (by kernel_rfl) (by kernel_rfl) ?_
 intro w1 hc1 hf1 hs1 HW1
 simp only [Yeh,Yek,Yeg,Yej]
 repeat still_step
 refine wpStill_nil ?_
 go_wp2
 generalize hw2 : (Yel _ _ _ : World) = w2
 have HW2 := Ydy hw2
 clear hw2
 have a6 : w2.cell? ⟨l,6,none⟩ = some (.int .i64 W) := by rw [← HW2.out]; exact Zi (Zi ((hc1 _).trans l6) (by simp)) (by simp)
 have a7 : w2.cell? ⟨l,7,none⟩ = some (.int .i64 n) := by rw [← HW2.out]; exact Zi (Zi ((hc1 _).trans l7) (by simp)) (by simp)
 have a1 : w2.cell? ⟨e,1,none⟩ = some (.int .i64 v) := by rw [← HW2.out]; exact Zi (Zi ((hc1 _).trans e1) (by simp)) (by simp)
 have a2 : w2.cell? ⟨e,2,none⟩ = some (.pointer (some ⟨l,0,none⟩)) := by rw [← HW2.out]; exact Zi (Zi ((hc1 _).trans e2) (by simp)) (by simp)
 have g : ∀ j,w2.frozen? ⟨l,j,none⟩ = false := by intro j; rw [← HW2.out]; simp only [Yem]; rw [hf1]; exact fl j
 clear l6 l7 e1 e2 e3 e4 p4 q3 fp fq fl hc1 hf1
 refine Z4 14 (by kernel_rfl) (by kernel_rfl) ?_
 intro w3 hc3 hf3 hs3 HW3
 simp only [Yeh,Yek,Yeg,Yej]
 repeat still_step
 refine wpStill_nil ?_
 have g7 := hf3 ⟨l,7,none⟩
 go_wp2
 go_end0
 exact ⟨rfl,by rw [← HW3.out,← HW2.out,← HW1.out]; exact ⟨rfl,rfl,rfl,rfl⟩⟩
def Zgo (id v : Int) : Obj := .cells #[.int .i64 id,.int .i64 v,.pointer none,.pointer none,.pointer none] 157
def Kt (w : World) (l e p : Nat) (W n v : Int) : World := ((((((w.setCell ⟨e,3,none⟩ (.pointer (some ⟨p,0,none⟩))).setCell ⟨e,4,none⟩ (.pointer (some ⟨l,0,none⟩))).setCell ⟨e,2,none⟩ (.pointer (some ⟨l,0,none⟩))).setCell ⟨p,4,none⟩ (.pointer (some ⟨e,0,none⟩))).setCell ⟨l,3,none⟩ (.pointer (some ⟨e,0,none⟩))).setCell ⟨l,6,none⟩ (.int .i64 (W + v))).setCell ⟨l,7,none⟩ (.int .i64 (n + 1))
def Xw (w : World) (l p q : Nat) (W n v : Int) : World := (((w.setCell ⟨p,4,none⟩ (.pointer (some ⟨q,0,none⟩))).setCell ⟨q,3,none⟩ (.pointer (some ⟨p,0,none⟩))).setCell ⟨l,6,none⟩ (.int .i64 (W - v))).setCell ⟨l,7,none⟩ (.int .i64 (n - 1))
theorem Zqp (x rb m c k l p n0 : Nat) (f : Int → Option Value) (id v W n : Int) (u : Value) (w : World) (hk : k < 3) (c0 : w.cell? ⟨x,0,none⟩ = some (.slice (some ⟨rb,0,none⟩) 3 c)) (c1 : w.cell? ⟨x,1,none⟩ = some (.map (some m))) (hr : w.cell? ⟨rb,k,none⟩ = some (.pointer (some ⟨l,0,none⟩)))
  (hm : Zs w m f n0) (hn0 : n0 ≤ 100000) (hf : f id = none) (hid : 1 ≤ id ∧ id ≤ 65536) (hv : 0 ≤ v ∧ v ≤ 2147483648)
  (l3 : w.cell? ⟨l,3,none⟩ = some (.pointer (some ⟨p,0,none⟩))) (l6 : w.cell? ⟨l,6,none⟩ = some (.int .i64 W)) (l7 : w.cell? ⟨l,7,none⟩ = some (.int .i64 n)) (p4 : w.cell? ⟨p,4,none⟩ = some u)
  (fl : ∀ j,w.frozen? ⟨l,j,none⟩ = false) (fp : ∀ j,w.frozen? ⟨p,j,none⟩ = false) (hlm : l ≠ m) (hpm : p ≠ m)
  (hW : 0 ≤ W ∧ W ≤ 1000000000000) (hn : 0 ≤ n ∧ n ≤ 1000000) :
  Calls Yd4 64 #[.pointer (some ⟨x,0,none⟩),.int .i64 (k : Int),.int .i64 id,.int .i64 v] w fun r w' => r = .returned (.int .i64 0) ∧ ∃ w4,Zs w4 m (upd f id (some (P0 w.heap.size))) (n0 + 1) ∧ (w.alloc (Zgo id v)).mapTurned w4 m ∧ Sm (Kt w4 l w.heap.size p W n v) w' := by
 have hxb : x < w.heap.size := Yd9 w _ c0
 have hlb : l < w.heap.size := Yd9 w _ l3
 have hpb : p < w.heap.size := Yd9 w _ p4
 have hI : I64 id := ⟨by omega,by omega⟩
 have hl := hm.get Yec (Zmk w) hI
 rw [hf] at hl
 simp only [Option.getD_none] at hl
 have HM := Ydy hm
 have HF := Ydy hf
 have L3 := Ydy l3
 have L6 := Ydy l6
 have L7 := Ydy l7
 have P4 := Ydy p4
 have FL := Ydy fl
 have FP := Ydy fp
 have HLM := Ydy hlm
 have HPM := Ydy hpm
 clear hm hf l3 l6 l7 p4 fl fp hlm hpm
 go_enter Tryz.func64,Tryz.ntmps64
 go_wp2_with (first | (go_at_call 109; refine (Zcv x rb c k l _ hk c0 hr).mono ?_; rintro e w' ⟨rfl,rfl⟩) | (go_at_call 110; refine (Zk3 v _ hv.1 hv.2).mono ?_; rintro e w' ⟨rfl,rfl⟩) | (at_mapUpdate; go_loud (refine Y0 rfl rfl Yec rfl (HM.out.alloc (Zgo id v)) (by omega) rfl rfl hI ?_); intro w4 hown4 hturn4))
 have HT := Ydy hturn4
 have HO := Ydy hown4
 clear hturn4 hown4
 have hg := HT.out.grown
 have hB : ∀ b,b ≠ m → b < (w.alloc (Zgo id v)).heap.size → w4.heap[b]? = (w.alloc (Zgo id v)).heap[b]? := fun b hb hlt => hg.block b hlt (fun e => hb (Option.some.inj e))
 have hC : ∀ b j,b ≠ m → b < w.heap.size → w4.cell? ⟨b,j,none⟩ = w.cell? ⟨b,j,none⟩ := fun b j hb hlt => by
  rw [Yed (w:=w.alloc (Zgo id v)) (hB b hb (by simp; omega)),World.cell?_alloc_lt _ _ _ hlt]
 have hD : ∀ b j,b ≠ m → b < w.heap.size → w4.frozen? ⟨b,j,none⟩ = w.frozen? ⟨b,j,none⟩ := fun b j hb hlt => by
  simp only [World.frozen?,hB b hb (by simp; omega),Below.heap_alloc w _ b hlt]
 have hmlt := HM.out.lt
 have hE : w4.heap[w.heap.size]? = some (Zgo id v) := (hB _ (by omega) (by simp)).trans (Zh _ _)
 refine (Zls l w.heap.size p W n v (.pointer none) (.pointer none) (.pointer none) u w4 (by rw [hC _ _ HLM.out hlb]; exact L3.out) (by rw [hC _ _ HLM.out hlb]; exact L6.out) (by rw [hC _ _ HLM.out hlb]; exact L7.out)
  (Za hE rfl) (Za hE rfl) (Za hE rfl) (Za hE rfl) (by rw [hC _ _ HPM.out hpb]; exact P4.out) (by omega) (by omega) (by omega) (fun j => by rw [hD _ _ HLM.out hlb]; exact FL.out j) (fun j => Zc hE j) (fun j => by rw [hD _ _ HPM.out hpb]; exact FP.out j) hW hn hv).mono ?_
 rintro r w5 ⟨rfl,hs5⟩
 have HS := Ydy hs5
 clear hs5 hE hC hD hB hg
 go_wp2
 go_ret
 refine ⟨rfl,w4,?_,HT.out,HS.out⟩
 have := HO.out
 rw [HF.out] at this
 exact this
theorem Zkw (x m l b p q n0 : Nat) (f : Int → Option Value) (id v W n : Int) (u u' : Value) (w : World) (c1 : w.cell? ⟨x,1,none⟩ = some (.map (some m)))
  (hm : Zs w m f n0) (hf : f id = some (P0 b)) (hid : 1 ≤ id ∧ id ≤ 65536)
  (e1 : w.cell? ⟨b,1,none⟩ = some (.int .i64 v)) (e2 : w.cell? ⟨b,2,none⟩ = some (.pointer (some ⟨l,0,none⟩))) (e3 : w.cell? ⟨b,3,none⟩ = some (.pointer (some ⟨p,0,none⟩))) (e4 : w.cell? ⟨b,4,none⟩ = some (.pointer (some ⟨q,0,none⟩)))
  (p4 : w.cell? ⟨p,4,none⟩ = some u) (q3 : w.cell? ⟨q,3,none⟩ = some u') (l6 : w.cell? ⟨l,6,none⟩ = some (.int .i64 W)) (l7 : w.cell? ⟨l,7,none⟩ = some (.int .i64 n))
  (fp : w.frozen? ⟨p,4,none⟩ = false) (fq : w.frozen? ⟨q,3,none⟩ = false) (fl : ∀ j,w.frozen? ⟨l,j,none⟩ = false)
  (hW : -1000000000000 ≤ W ∧ W ≤ 1000000000000) (hn : 0 ≤ n ∧ n ≤ 1000000) (hv : 0 ≤ v ∧ v ≤ 2147483648) (hpm : m ≠ p) (hqm : m ≠ q) (hlm : m ≠ l) (hpx : p ≠ x) (hqx : q ≠ x) (hlx : l ≠ x) :
  Calls Yd4 116 #[.pointer (some ⟨x,0,none⟩),.int .i64 id] w fun r w' => r = .returned (.int .i64 0) ∧ Zs w' m (upd f id none) (n0 - 1) ∧ (∀ b,b ≠ m → w'.heap[b]? = (Xw w l p q W n v).heap[b]?) ∧ Zb (fun b => b = p ∨ b = q ∨ b = l ∨ b = m) w w' := by
 have hI : I64 id := ⟨by omega,by omega⟩
 have hl := hm.get Yec (Zmk w) hI
 rw [hf] at hl
 simp only [Option.getD_some,P0] at hl
 have HM := Ydy hm
 have HF := Ydy hf
 have C1 := Ydy c1
 have U := Ydy (Zhj l b p q W n v u u' w e1 e2 e3 e4 p4 q3 l6 l7 fp fq fl hW hn hv)
 have HN := Ydy (And.intro hpm (And.intro hqm (And.intro hlm (And.intro hpx (And.intro hqx hlx)))))
 clear hm hf e1 e2 e3 e4 p4 q3 l6 l7 fp fq fl hpm hqm hlm hpx hqx hlx
 go_enter Tryz.func116,Tryz.ntmps116
 go_wp2_with fail
 refine (U.out).mono ?_
 rintro r w2 ⟨rfl,hs2⟩
 have hc2 : w2.cell? ⟨x,1,none⟩ = some (.map (some m)) := by
  obtain ⟨_,_,_,h1,h2,h3⟩ := HN.out
  rw [hs2.cell]
  exact Zi (Zi (Zi (Zi C1.out (Y2 h1)) (Y2 h2)) (Y2 h3)) (Y2 h3)
 have hm2 : Zs w2 m f n0 := by
  obtain ⟨h1,h2,h3,_⟩ := HN.out
  exact hs2.map ((((HM.out.setCell (a:=⟨p,4,none⟩) h1 _).setCell (a:=⟨q,3,none⟩) h2 _).setCell (a:=⟨l,6,none⟩) h3 _).setCell (a:=⟨l,7,none⟩) h3 _)
 have HM2 := Ydy hm2
 have HS := Ydy hs2
 clear hm2 hs2 hl c1
 go_wp2_with (at_delete; go_loud (refine J8 rfl rfl Yec rfl HM2.out rfl hI ?_); intro w4 hown4 hturn4)
 go_ret
 have hsome : (f id).isSome = true := by rw [HF.out]; rfl
 rw [if_pos hsome] at hown4
 refine ⟨rfl,hown4,fun b hb => by rw [Yq hturn4 hb,HS.out.heap]; rfl,?_⟩
 have hO : Zb (fun b => b = p ∨ b = q ∨ b = l ∨ b = m) w (Xw w l p q W n v) := by
  unfold Xw
  exact ((((Zb.refl _ w).setCell (p:=⟨p,4,none⟩) (.inl (.inl rfl)) _).setCell (p:=⟨q,3,none⟩) (.inl (.inr (.inl rfl))) _).setCell (p:=⟨l,6,none⟩) (.inl (.inr (.inr (.inl rfl)))) _).setCell (p:=⟨l,7,none⟩) (.inl (.inr (.inr (.inl rfl)))) _
 exact (Sm.then_only hO HS.out).turned hturn4 (.inl (.inr (.inr (.inr rfl))))
theorem Zlv (x m l b n0 : Nat) (f : Int → Option Value) (id v v' W : Int) (w : World) (c1 : w.cell? ⟨x,1,none⟩ = some (.map (some m)))
  (hm : Zs w m f n0) (hf : f id = some (P0 b)) (hid : 1 ≤ id ∧ id ≤ 65536)
  (e1 : w.cell? ⟨b,1,none⟩ = some (.int .i64 v)) (e2 : w.cell? ⟨b,2,none⟩ = some (.pointer (some ⟨l,0,none⟩))) (l6 : w.cell? ⟨l,6,none⟩ = some (.int .i64 W))
  (f1 : w.frozen? ⟨b,1,none⟩ = false) (fl : w.frozen? ⟨l,6,none⟩ = false)
  (hW : 0 ≤ W ∧ W ≤ 1000000000000) (hv : 0 ≤ v ∧ v ≤ 2147483648) (hv' : 0 ≤ v' ∧ v' ≤ 2147483648) :
  Calls Yd4 66 #[.pointer (some ⟨x,0,none⟩),.int .i64 id,.int .i64 v'] w fun r w' => r = .returned (.int .i64 0) ∧ Sm ((w.setCell ⟨l,6,none⟩ (.int .i64 (W + (v' - v)))).setCell ⟨b,1,none⟩ (.int .i64 v')) w' := by
 have hI : I64 id := ⟨by omega,by omega⟩
 have hl := hm.get Yec (Zmk w) hI
 rw [hf] at hl
 simp only [Option.getD_some,P0] at hl
 clear hm hf
 go_enter Tryz.func66,Tryz.ntmps66
 go_wp2_with (go_at_call 110; refine (Zk3 v' _ hv'.1 hv'.2).mono ?_; rintro e w' ⟨rfl,rfl⟩)
 refine Z4 16 (by kernel_rfl) (by kernel_rfl) ?_
 intro w3 hc3 hf3 hs3 HW3
 simp only [Yeh,Yek,Yeg,Yej]
 repeat still_step
 refine wpStill_nil ?_
 go_wp2
 go_ret
 exact ⟨rfl,by rw [← HW3.out]; exact ⟨rfl,rfl,rfl,rfl⟩⟩
theorem Zrx (x rb c : Nat) (k : Nat) (lk : Nat) (w : World) (hk : k < 3) (c0 : w.cell? ⟨x,0,none⟩ = some (.slice (some ⟨rb,0,none⟩) 3 c)) (hr : w.cell? ⟨rb,k,none⟩ = some (.pointer (some ⟨lk,0,none⟩))) :
  Calls Yd4 109 #[.pointer (some ⟨x,0,none⟩),.int .i64 (k : Int)] w fun e w' => e = .returned (.pointer (some ⟨lk,0,none⟩)) ∧ w' = w :=
 (Zcv x rb c k lk w hk c0 hr).mono fun _ _ ⟨h1,h2⟩ => ⟨h1,h2.symm⟩
theorem Zu5 (x rb m c k b l n0 : Nat) (f : Int → Option Value) (id : Int) (w : World) (A B : World → Prop) (hk : k < 3) (c0 : w.cell? ⟨x,0,none⟩ = some (.slice (some ⟨rb,0,none⟩) 3 c)) (c1 : w.cell? ⟨x,1,none⟩ = some (.map (some m))) (hr : w.cell? ⟨rb,k,none⟩ = some (.pointer (some ⟨l,0,none⟩)))
  (hm : Zs w m f n0) (hf : f id = some (P0 b)) (hid : 1 ≤ id ∧ id ≤ 65536)
  (hU : ∀ w1,Sm w w1 → Calls Yd4 163 #[.pointer (some ⟨b,0,none⟩)] w1 fun r w' => r = .returned (.tuple #[]) ∧ A w')
  (hP : ∀ w1,A w1 → Calls Yd4 111 #[.pointer (some ⟨l,0,none⟩),.pointer (some ⟨b,0,none⟩)] w1 fun r w' => r = .returned (.tuple #[]) ∧ B w') :
  Calls Yd4 115 #[.pointer (some ⟨x,0,none⟩),.int .i64 id,.int .i64 (k : Int)] w fun r w' => r = .returned (.int .i64 0) ∧ B w' := by
 have hI : I64 id := ⟨by omega,by omega⟩
 have hl : ∀ nq,(Instr.lookup 150 (.map (some m)) (.int .i64 id) false).run Yd4 (w.drewN nq) = .ok (.pointer (some ⟨b,0,none⟩)) (w.drewN nq) := fun nq => by
  have h := (hm.drewN nq).get Yec (Zmk _) hI
  rw [hf] at h
  exact h
 have HM := Ydy hm
 have HF := Ydy hf
 have HU := Ydy hU
 have HP := Ydy hP
 have HR := Ydy hr
 have C0 := Ydy c0
 clear hm hf hU hP hr c0
 go_enter Tryz.func115,Tryz.ntmps115
 go_wp2
 go_quiet ((go_at_call 109; exact Calls.quiet_of_same (Zrx x rb c k l _ hk C0.out HR.out)))
 go_wp2_with fail
 refine (HU.out (w.drewN _) ⟨rfl,rfl,rfl,rfl⟩).mono ?_
 rintro r w2 ⟨rfl,ha2⟩
 go_wp2_with fail
 refine (HP.out _ ha2).mono ?_
 rintro r w3 ⟨rfl,hb3⟩
 go_wp2
 go_ret
 exact ⟨rfl,hb3⟩
end
def Zx : Nat → List Nat → Nat
 | a,[] => a
 | _,b :: r => Zx b r
def Yx (z : Nat) : List Nat → Nat
 | [] => z
 | b :: _ => b
def Qy (nx pv : Nat → Nat → Prop) : Nat → List Nat → Nat → Prop
 | a,[],z => nx a z ∧ pv z a
 | a,b :: r,z => (nx a b ∧ pv b a) ∧ Qy nx pv b r z
theorem Jb (a : Nat) (bs : List Nat) : Zx a bs = a ∧ bs = [] ∨ Zx a bs ∈ bs := by
 induction bs generalizing a with
 | nil => exact .inl ⟨rfl,rfl⟩
 | cons b r ih =>
  refine .inr ?_
  show Zx b r ∈ b :: r
  rcases ih b with ⟨h,_⟩ | h
  ·rw [h]; exact Yd3
  ·exact Yd2 _ h
theorem Zdi (z : Nat) (bs : List Nat) : Yx z bs = z ∧ bs = [] ∨ Yx z bs ∈ bs := by
 cases bs with
 | nil => exact .inl ⟨rfl,rfl⟩
 | cons b r => exact .inr Yd3
theorem Zle (a b : Nat) (bs : List Nat) : Zx a (bs ++ [b]) = b := by
 induction bs generalizing a with
 | nil => rfl
 | cons c r ih => exact ih c
theorem Qy.congr {a : Nat} (h : Qy nx pv a bs z) (h1 : ∀ k v,k = a ∨ k ∈ bs → nx k v → nx' k v) (h2 : ∀ k v,k = z ∨ k ∈ bs → pv k v → pv' k v) : Qy nx' pv' a bs z := by
 induction bs generalizing a with
 | nil => exact ⟨h1 _ _ (.inl rfl) h.1,h2 _ _ (.inl rfl) h.2⟩
 | cons b r ih =>
  obtain ⟨⟨p,q⟩,h⟩ := h
  refine ⟨⟨h1 _ _ (.inl rfl) p,h2 _ _ (.inr Yd3) q⟩,ih h (fun k v hk => h1 k v (.inr ?_)) (fun k v hk => h2 k v ?_)⟩
  ·rcases hk with rfl | hk
   ·exact Yd3
   ·exact Yd2 _ hk
  ·rcases hk with rfl | hk
   ·exact .inl rfl
   ·exact .inr (Yd2 _ hk)
theorem Qy.first {a : Nat} (h : Qy nx pv a bs z) : nx a (Yx z bs) := by
 cases bs with
 | nil => exact h.1
 | cons b r => exact h.1.1
theorem Qy.last {a : Nat} (h : Qy nx pv a bs z) : pv z (Zx a bs) := by
 induction bs generalizing a with
 | nil => exact h.2
 | cons b r ih => exact ih h.2
theorem Qy.mid {a : Nat} (h : Qy nx pv a (A ++ x :: B) z) : nx (Zx a A) x ∧ pv x (Zx a A) ∧ nx x (Yx z B) ∧ pv (Yx z B) x := by
 induction A generalizing a with
 | nil =>
  refine ⟨h.1.1,h.1.2,h.2.first,?_⟩
  have := h.2
  cases B with
  | nil => exact this.2
  | cons y B => exact this.1.2
 | cons c A ih => exact ih h.2
theorem Qy.unlink {a : Nat} (h : Qy nx pv a (A ++ x :: B) z) (ha : a ∉ A ++ x :: B) (hz : z ∉ A ++ x :: B) (hd : (A ++ x :: B).Nodup)
  (h1 : ∀ k v,k ≠ Zx a A → nx k v → nx' k v) (h2 : ∀ k v,k ≠ Yx z B → pv k v → pv' k v) (hn : nx' (Zx a A) (Yx z B)) (hp : pv' (Yx z B) (Zx a A)) : Qy nx' pv' a (A ++ B) z := by
 induction A generalizing a with
 | nil =>
  obtain ⟨_,h⟩ := h
  simp only [List.nil_append,Yef,not_or] at ha hz hd
  cases B with
  | nil => exact ⟨hn,hp⟩
  | cons y B =>
   obtain ⟨_,h⟩ := h
   refine ⟨⟨hn,hp⟩,h.congr (fun k v hk => h1 k v ?_) (fun k v hk => h2 k v ?_)⟩
   ·show k ≠ a
    rintro rfl
    rcases hk with rfl | hk
    ·exact ha.2 Yd3
    ·exact ha.2 (Yd2 _ hk)
   ·show k ≠ y
    rintro rfl
    rcases hk with rfl | hk
    ·exact hz.2 Yd3
    ·exact (Yei.1 (Yei.1 hd).2).1 hk
 | cons c A ih =>
  obtain ⟨⟨p,q⟩,h⟩ := h
  simp only [List.cons_append,Yef,not_or] at ha hz hd
  obtain ⟨hc,hd⟩ := Yei.1 hd
  have hl : Zx c A = c ∨ Zx c A ∈ A := (Jb c A).imp (fun h => h.1) id
  refine ⟨⟨h1 _ _ ?_ p,h2 _ _ ?_ q⟩,ih h hc hz.2 hd h1 hn hp⟩
  ·show a ≠ Zx c A
   rintro rfl
   rcases hl with hl | hl
   ·exact ha.1 hl
   ·exact ha.2 (Yd1 _ hl)
  ·rcases Zdi z B with ⟨e,_⟩ | hb
   ·rw [e]; exact fun e => hz.1 e.symm
   ·rintro e; rw [← e] at hb; exact hc (Ydz _ (Yd2 _ hb))
theorem Qy.push {a : Nat} (h : Qy nx pv a bs z) (ha : a ∉ bs) (hz : z ∉ bs) (hd : bs.Nodup)
  (h1 : ∀ k v,k ≠ Zx a bs → nx k v → nx' k v) (h2 : ∀ k v,k ≠ z → pv k v → pv' k v) (n1 : nx' (Zx a bs) e) (p1 : pv' e (Zx a bs)) (n2 : nx' e z) (p2 : pv' z e) : Qy nx' pv' a (bs ++ [e]) z := by
 induction bs generalizing a with
 | nil => exact ⟨⟨n1,p1⟩,n2,p2⟩
 | cons c A ih =>
  obtain ⟨⟨p,q⟩,h⟩ := h
  simp only [Yef,not_or] at ha hz
  obtain ⟨hc,hd⟩ := Yei.1 hd
  have hl : Zx c A = c ∨ Zx c A ∈ A := (Jb c A).imp (fun h => h.1) id
  refine ⟨⟨h1 _ _ ?_ p,h2 _ _ (fun e => hz.1 e.symm) q⟩,ih h hc hz.2 hd h1 n1 p1⟩
  show a ≠ Zx c A
  rintro rfl
  rcases hl with hl | hl
  ·exact ha.1 hl
  ·exact ha.2 hl
abbrev Nd := Nat × Int × Int
def Q8 (w : World) (b : Nat) (id v : Int) (l : Nat) : Prop := ∃ u3 u4,w.heap[b]? = some (.cells #[.int .i64 id,.int .i64 v,P0 l,u3,u4] 157 (0,0))
def Ka (w : World) (l k : Nat) (W n : Int) : Prop := ∃ u3 u4,w.heap[l]? = some (.cells #[.int .i64 0,.int .i64 0,.pointer none,u3,u4,.int .i64 (k : Int),.int .i64 W,.int .i64 n] 159 (0,0))
def nxW (w : World) (a b : Nat) : Prop := w.cell? ⟨a,4,none⟩ = some (P0 b)
def pvW (w : World) (a b : Nat) : Prop := w.cell? ⟨a,3,none⟩ = some (P0 b)
def Xy : List Nd → Int
 | [] => 0
 | t :: r => t.2.2 + Xy r
theorem K9 (A B : List Nd) : Xy (A ++ B) = Xy A + Xy B := by
 induction A with
 | nil => simp [Xy]
 | cons t r ih => simp only [List.cons_append,Xy,ih]; omega
theorem Zy7 {A : List Nd} (h : ∀ t ∈ A,0 ≤ t.2.2 ∧ t.2.2 ≤ 2147483648) : 0 ≤ Xy A ∧ Xy A ≤ 2147483648 * (A.length : Int) := by
 induction A with
 | nil => simp [Xy]
 | cons t r ih =>
  have h1 := h t Yd3
  have h2 := ih (fun s hs => h s (Yd2 _ hs))
  simp only [Xy,Yee]; omega
structure Ko (own : Nat → Nat) (w : World) (l : Nat → Nat) (bs : Nat → List Nd) : Prop where
 lists : ∀ k,k < 3 → own (l k) = 33 + k ∧ Ka w (l k) k (Xy (bs k)) (bs k).length
 nodes : ∀ k,k < 3 → ∀ t ∈ bs k,own t.1 = 36 ∧ Q8 w t.1 t.2.1 t.2.2 (l k)
 chain : ∀ k,k < 3 → Qy (nxW w) (pvW w) (l k) ((bs k).map (·.1)) (l k)
 nodup : ∀ k,k < 3 → ((bs k).map (·.1)).Nodup
 apart : ∀ j k,j < 3 → k < 3 → j ≠ k → ∀ t ∈ bs j,∀ s ∈ bs k,t.1 ≠ s.1
 fine : ∀ k,k < 3 → ∀ t ∈ bs k,(1 ≤ t.2.1 ∧ t.2.1 ≤ 65536) ∧ (0 ≤ t.2.2 ∧ t.2.2 ≤ 2147483648)
def Xc (bs : Nat → List Nd) (k : Nat) (r : List Nd) : Nat → List Nd := fun j => if j = k then r else bs j
theorem Zp (bs : Nat → List Nd) (k : Nat) (r : List Nd) : Xc bs k r k = r := if_pos rfl
theorem Zr {bs : Nat → List Nd} {j : Nat} {r : List Nd} (h : j ≠ k) : Xc bs k r j = bs j := if_neg h
theorem Q8.set34 {b l : Nat} (h : Q8 w b id v l) (c j : Nat) (hj : j = 3 ∨ j = 4) (u : Value) : Q8 (w.setCell ⟨c,j,none⟩ u) b id v l := by
 obtain ⟨u3,u4,h⟩ := h
 by_cases hb : b = c
 ·subst hb
  rcases hj with rfl | rfl
  ·exact ⟨u,u4,Zj h 3 u⟩
  ·exact ⟨u3,u,Zj h 4 u⟩
 ·exact ⟨u3,u4,Z7 h hb j u⟩
theorem Q8.far {b l c : Nat} (h : Q8 w b id v l) (hb : b ≠ c) (j : Nat) (u : Value) : Q8 (w.setCell ⟨c,j,none⟩ u) b id v l := by
 obtain ⟨u3,u4,h⟩ := h
 exact ⟨u3,u4,Z7 h hb j u⟩
theorem Ka.set34 {l : Nat} (h : Ka w l k W n) (c j : Nat) (hj : j = 3 ∨ j = 4) (u : Value) : Ka (w.setCell ⟨c,j,none⟩ u) l k W n := by
 obtain ⟨u3,u4,h⟩ := h
 by_cases hb : l = c
 ·subst hb
  rcases hj with rfl | rfl
  ·exact ⟨u,u4,Zj h 3 u⟩
  ·exact ⟨u3,u,Zj h 4 u⟩
 ·exact ⟨u3,u4,Z7 h hb j u⟩
theorem Ka.far {l c : Nat} (h : Ka w l k W n) (hb : l ≠ c) (j : Nat) (u : Value) : Ka (w.setCell ⟨c,j,none⟩ u) l k W n := by
 obtain ⟨u3,u4,h⟩ := h
 exact ⟨u3,u4,Z7 h hb j u⟩
theorem Ka.set67 {l : Nat} (h : Ka w l k W n) (W' n' : Int) : Ka ((w.setCell ⟨l,6,none⟩ (.int .i64 W')).setCell ⟨l,7,none⟩ (.int .i64 n')) l k W' n' := by
 obtain ⟨u3,u4,h⟩ := h
 exact ⟨u3,u4,Zj (Zj h 6 _) 7 _⟩
theorem Ka.set6 {l : Nat} (h : Ka w l k W n) (W' : Int) : Ka (w.setCell ⟨l,6,none⟩ (.int .i64 W')) l k W' n := by
 obtain ⟨u3,u4,h⟩ := h
 exact ⟨u3,u4,Zj h 6 _⟩
theorem Ko.congr {l : Nat → Nat} {bs : Nat → List Nd} (h : Ko own w l bs) (hb : ∀ b,b < w.heap.size → 33 ≤ own b ∧ own b < 37 → w'.heap[b]? = w.heap[b]?) (ho : ∀ b,b < w.heap.size → own' b = own b) : Ko own' w' l bs := by
 have hL : ∀ k,k < 3 → l k < w.heap.size := fun k hk => by obtain ⟨_,u3,u4,h⟩ := h.lists k hk; exact Ze h
 have hN : ∀ k,k < 3 → ∀ t ∈ bs k,t.1 < w.heap.size := fun k hk t ht => by obtain ⟨_,u3,u4,h⟩ := h.nodes k hk t ht; exact Ze h
 have eL : ∀ k,k < 3 → w'.heap[l k]? = w.heap[l k]? := fun k hk => hb _ (hL k hk) (by have := (h.lists k hk).1; omega)
 have eN : ∀ k,k < 3 → ∀ t ∈ bs k,w'.heap[t.1]? = w.heap[t.1]? := fun k hk t ht => hb _ (hN k hk t ht) (by have := (h.nodes k hk t ht).1; omega)
 have eC : ∀ k,k < 3 → ∀ b,b = l k ∨ b ∈ (bs k).map (·.1) → w'.heap[b]? = w.heap[b]? := fun k hk b hb => by
  rcases hb with rfl | hb
  ·exact eL k hk
  ·obtain ⟨t,ht,rfl⟩ := Yd5.1 hb
   exact eN k hk t ht
 refine ⟨fun k hk => ?_,fun k hk t ht => ?_,fun k hk => ?_,h.nodup,h.apart,h.fine⟩
 ·obtain ⟨h1,u3,u4,h2⟩ := h.lists k hk
  exact ⟨(ho _ (hL k hk)).trans h1,u3,u4,(eL k hk).trans h2⟩
 ·obtain ⟨h1,u3,u4,h2⟩ := h.nodes k hk t ht
  exact ⟨(ho _ (hN k hk t ht)).trans h1,u3,u4,(eN k hk t ht).trans h2⟩
 ·refine (h.chain k hk).congr (fun b v hb hv => ?_) (fun b v hb hv => ?_)
  ·unfold nxW at hv ⊢; rw [Yed (w:=w) (eC k hk b hb)]; exact hv
  ·unfold pvW at hv ⊢; rw [Yed (w:=w) (eC k hk b hb)]; exact hv
theorem Ko.sm {l : Nat → Nat} {bs : Nat → List Nd} (h : Ko own w l bs) (hs : Sm w w') : Ko own w' l bs := h.congr (fun b _ _ => by rw [hs.heap]) (fun _ _ => rfl)
theorem Ko.unlink {l : Nat → Nat} {bs : Nat → List Nd} (h : Ko own w l bs) (hk : k < 3) {A B : List Nd} {t : Nd} (hbs : bs k = A ++ t :: B) :
  Ko own (Xw w (l k) (Zx (l k) (A.map (·.1))) (Yx (l k) (B.map (·.1))) (Xy (bs k)) (bs k).length t.2.2) l (Xc bs k (A ++ B)) ∧
  Q8 (Xw w (l k) (Zx (l k) (A.map (·.1))) (Yx (l k) (B.map (·.1))) (Xy (bs k)) (bs k).length t.2.2) t.1 t.2.1 t.2.2 (l k) := by
 have hC := h.chain k hk
 have hD := h.nodup k hk
 rw [hbs,Yd0,Yea] at hC hD
 have hln : ∀ j,j < 3 → ∀ i,i < 3 → ∀ s ∈ bs j,s.1 ≠ l i := fun j hj i hi s hs e => by
  have h1 := (h.nodes j hj s hs).1
  have h2 := (h.lists i hi).1
  rw [e] at h1; omega
 have hlnk : l k ∉ A.map (·.1) ++ t.1 :: B.map (·.1) := fun hm => by
  have : l k ∈ (bs k).map (·.1) := by rw [hbs,Yd0,Yea]; exact hm
  obtain ⟨s,hs,e⟩ := Yd5.1 this
  exact hln k hk k hk s hs e
 have hll : ∀ j,j < 3 → j ≠ k → l j ≠ l k := fun j hj hjk e => by
  have h1 := (h.lists j hj).1
  have h2 := (h.lists k hk).1
  rw [e] at h1; omega
 have hsub : ∀ s,s ∈ A ++ B → s ∈ bs k := fun s hs => by
  rw [hbs]
  rcases Yd6.1 hs with hs | hs
  ·exact Yd1 _ hs
  ·exact Ydz _ (Yd2 _ hs)
 have hin : t ∈ bs k := by rw [hbs]; exact Ydz _ Yd3
 have hnode : ∀ b id v l',Q8 w b id v l' → b ≠ l k → Q8 (Xw w (l k) (Zx (l k) (A.map (·.1))) (Yx (l k) (B.map (·.1))) (Xy (bs k)) (bs k).length t.2.2) b id v l' := fun b id v l' hN hb =>
  (((hN.set34 _ 4 (.inr rfl) _).set34 _ 3 (.inl rfl) _).far hb 6 _).far hb 7 _
 refine ⟨⟨fun j hj => ?_,fun j hj s hs => ?_,fun j hj => ?_,fun j hj => ?_,fun i j hi hj hij s hs r hr => ?_,fun j hj s hs => ?_⟩,hnode _ _ _ _ (h.nodes k hk t hin).2 (hln k hk k hk t hin)⟩
 ·obtain ⟨h1,h2⟩ := h.lists j hj
  refine ⟨h1,?_⟩
  by_cases hjk : j = k
  ·subst hjk
   rw [Zp]
   have e1 : Xy (A ++ B) = Xy (bs j) - t.2.2 := by rw [hbs,K9,K9]; simp only [Xy]; omega
   have e2 : (((A ++ B).length : Nat) : Int) = ((bs j).length : Int) - 1 := by rw [hbs]; simp only [Yeb,Yee]; omega
   rw [e1,e2]
   exact ((h2.set34 _ 4 (.inr rfl) _).set34 _ 3 (.inl rfl) _).set67 _ _
  ·rw [Zr hjk]
   exact (((h2.set34 _ 4 (.inr rfl) _).set34 _ 3 (.inl rfl) _).far (hll j hj hjk) 6 _).far (hll j hj hjk) 7 _
 ·have hs' : s ∈ bs j := by
   by_cases hjk : j = k
   ·subst hjk; rw [Zp] at hs; exact hsub s hs
   ·rw [Zr hjk] at hs; exact hs
  exact ⟨(h.nodes j hj s hs').1,hnode _ _ _ _ (h.nodes j hj s hs').2 (hln j hj k hk s hs')⟩
 ·have n1 : ∀ b v,b ≠ Zx (l k) (A.map (·.1)) → nxW w b v → nxW (Xw w (l k) (Zx (l k) (A.map (·.1))) (Yx (l k) (B.map (·.1))) (Xy (bs k)) (bs k).length t.2.2) b v := fun b v hb hv =>
   Zi (Zi (Zi (Zi hv (Y2 (Ne.symm hb))) (by simp)) (by simp)) (by simp)
  have n2 : ∀ b v,b ≠ Yx (l k) (B.map (·.1)) → pvW w b v → pvW (Xw w (l k) (Zx (l k) (A.map (·.1))) (Yx (l k) (B.map (·.1))) (Xy (bs k)) (bs k).length t.2.2) b v := fun b v hb hv =>
   Zi (Zi (Zi (Zi hv (by simp)) (Y2 (Ne.symm hb))) (by simp)) (by simp)
  by_cases hjk : j = k
  ·subst hjk
   rw [Zp,Yd0]
   have hm := hC.mid
   refine hC.unlink hlnk hlnk hD n1 n2 ?_ ?_
   ·refine Zi (Zi (Zi ?_ (by simp)) (by simp)) (by simp)
    have := hm.1
    unfold nxW at this
    exact Yd8 _ _ _ this
   ·refine Zi (Zi ?_ (by simp)) (by simp)
    have := hm.2.2.2
    unfold pvW at this
    have this' : (w.setCell ⟨Zx (l j) (A.map (·.1)),4,none⟩ (.pointer (some ⟨Yx (l j) (B.map (·.1)),0,none⟩))).cell? ⟨Yx (l j) (B.map (·.1)),3,none⟩ = some (P0 t.1) := Zi this (by simp)
    exact Yd8 _ _ _ this'
  ·rw [Zr hjk]
   have hap : ∀ b,b = l j ∨ b ∈ (bs j).map (·.1) → b ≠ l k ∧ b ∉ (bs k).map (·.1) := fun b hb => by
    rcases hb with rfl | hb
    ·refine ⟨hll j hj hjk,fun hb => ?_⟩
     obtain ⟨s,hs,e⟩ := Yd5.1 hb
     exact hln k hk j hj s hs e
    ·obtain ⟨s,hs,rfl⟩ := Yd5.1 hb
     refine ⟨hln j hj k hk s hs,fun hb => ?_⟩
     obtain ⟨r,hr,e⟩ := Yd5.1 hb
     exact h.apart j k hj hk hjk s hs r hr e.symm
   have hl1 : Zx (l k) (A.map (·.1)) = l k ∨ Zx (l k) (A.map (·.1)) ∈ (bs k).map (·.1) := (Jb _ _).imp (fun h => h.1) (fun h => by rw [hbs,Yd0]; exact Yd1 _ h)
   have hl2 : Yx (l k) (B.map (·.1)) = l k ∨ Yx (l k) (B.map (·.1)) ∈ (bs k).map (·.1) := (Zdi _ _).imp (fun h => h.1) (fun h => by rw [hbs,Yd0,Yea]; exact Ydz _ (Yd2 _ h))
   refine (h.chain j hj).congr (fun b v hb => n1 b v ?_) (fun b v hb => n2 b v ?_)
   ·obtain ⟨a1,a2⟩ := hap b hb
    rcases hl1 with e | e
    ·rw [e]; exact a1
    ·exact fun eb => a2 (eb ▸ e)
   ·obtain ⟨a1,a2⟩ := hap b hb
    rcases hl2 with e | e
    ·rw [e]; exact a1
    ·exact fun eb => a2 (eb ▸ e)
 ·by_cases hjk : j = k
  ·subst hjk
   rw [Zp,Yd0]
   exact hD.sublist (List.Sublist.append (List.Sublist.refl _) (List.sublist_cons_self _ _))
  ·rw [Zr hjk]; exact h.nodup j hj
 ·have g : ∀ i,∀ s,s ∈ Xc bs k (A ++ B) i → s ∈ bs i := fun i s hs => by
   by_cases hik : i = k
   ·subst hik; rw [Zp] at hs; exact hsub s hs
   ·rw [Zr hik] at hs; exact hs
  exact h.apart i j hi hj hij s (g i s hs) r (g j r hr)
 ·have hs' : s ∈ bs j := by
   by_cases hjk : j = k
   ·subst hjk; rw [Zp] at hs; exact hsub s hs
   ·rw [Zr hjk] at hs; exact hs
  exact h.fine j hj s hs'
theorem Ko.push {l : Nat → Nat} {bs : Nat → List Nd} (h : Ko own w l bs) (hk : k < 3) {u2 u3 u4 : Value} (he : w.heap[e]? = some (.cells #[.int .i64 id,.int .i64 v,u2,u3,u4] 157 (0,0))) (hown : own e = 36)
  (hnew : ∀ j,j < 3 → ∀ t ∈ bs j,t.1 ≠ e) (hid : 1 ≤ id ∧ id ≤ 65536) (hv : 0 ≤ v ∧ v ≤ 2147483648) :
  Ko own (Kt w (l k) e (Zx (l k) ((bs k).map (·.1))) (Xy (bs k)) (bs k).length v) l (Xc bs k (bs k ++ [(e,id,v)])) := by
 have hC := h.chain k hk
 have hD := h.nodup k hk
 have hln : ∀ j,j < 3 → ∀ i,i < 3 → ∀ s ∈ bs j,s.1 ≠ l i := fun j hj i hi s hs e => by
  have h1 := (h.nodes j hj s hs).1
  have h2 := (h.lists i hi).1
  rw [e] at h1; omega
 have hle : ∀ j,j < 3 → l j ≠ e := fun j hj q => by
  have h1 := (h.lists j hj).1
  rw [q] at h1; omega
 have hlnk : l k ∉ (bs k).map (·.1) := fun hm => by
  obtain ⟨s,hs,q⟩ := Yd5.1 hm
  exact hln k hk k hk s hs q
 have hll : ∀ j,j < 3 → j ≠ k → l j ≠ l k := fun j hj hjk e => by
  have h1 := (h.lists j hj).1
  have h2 := (h.lists k hk).1
  rw [e] at h1; omega
 have hlast : Zx (l k) ((bs k).map (·.1)) = l k ∨ Zx (l k) ((bs k).map (·.1)) ∈ (bs k).map (·.1) := (Jb _ _).imp (fun h => h.1) (fun h => h)
 have hpe : Zx (l k) ((bs k).map (·.1)) ≠ e := fun q => by
  rcases hlast with a | a
  ·exact hle k hk (a.symm.trans q)
  ·rw [q] at a
   obtain ⟨s,hs,q'⟩ := Yd5.1 a
   exact hnew k hk s hs q'
 generalize hp : Zx (l k) ((bs k).map (·.1)) = p at *
 have hnode : ∀ b id' v' l',Q8 w b id' v' l' → b ≠ l k → b ≠ e → Q8 (Kt w (l k) e p (Xy (bs k)) (bs k).length v) b id' v' l' := fun b id' v' l' hN hb hbe =>
  ((((((hN.far hbe 3 _).far hbe 4 _).far hbe 2 _).set34 _ 4 (.inr rfl) _).set34 _ 3 (.inl rfl) _).far hb 6 _).far hb 7 _
 have hnew' : Q8 (Kt w (l k) e p (Xy (bs k)) (bs k).length v) e id v (l k) := by
  have hN : Q8 (((w.setCell ⟨e,3,none⟩ (.pointer (some ⟨p,0,none⟩))).setCell ⟨e,4,none⟩ (.pointer (some ⟨l k,0,none⟩))).setCell ⟨e,2,none⟩ (.pointer (some ⟨l k,0,none⟩))) e id v (l k) := ⟨_,_,Zj (Zj (Zj he 3 _) 4 _) 2 _⟩
  exact (((hN.set34 _ 4 (.inr rfl) _).set34 _ 3 (.inl rfl) _).far (Ne.symm (hle k hk)) 6 _).far (Ne.symm (hle k hk)) 7 _
 refine ⟨fun j hj => ?_,fun j hj s hs => ?_,fun j hj => ?_,fun j hj => ?_,fun i j hi hj hij s hs r hr => ?_,fun j hj s hs => ?_⟩
 ·obtain ⟨h1,h2⟩ := h.lists j hj
  refine ⟨h1,?_⟩
  by_cases hjk : j = k
  ·subst hjk
   rw [Zp]
   have e1 : Xy (bs j ++ [(e,id,v)]) = Xy (bs j) + v := by rw [K9]; simp only [Xy]; omega
   have e2 : (((bs j ++ [(e,id,v)]).length : Nat) : Int) = ((bs j).length : Int) + 1 := by simp
   rw [e1,e2]
   exact (((((h2.far (hle j hj) 3 _).far (hle j hj) 4 _).far (hle j hj) 2 _).set34 _ 4 (.inr rfl) _).set34 _ 3 (.inl rfl) _).set67 _ _
  ·rw [Zr hjk]
   exact ((((((h2.far (hle j hj) 3 _).far (hle j hj) 4 _).far (hle j hj) 2 _).set34 _ 4 (.inr rfl) _).set34 _ 3 (.inl rfl) _).far (hll j hj hjk) 6 _).far (hll j hj hjk) 7 _
 ·by_cases hjk : j = k
  ·subst hjk
   rw [Zp] at hs
   rcases Yd6.1 hs with hs | hs
   ·exact ⟨(h.nodes j hj s hs).1,hnode _ _ _ _ (h.nodes j hj s hs).2 (hln j hj j hk s hs) (hnew j hj s hs)⟩
   ·rcases Yd7.1 hs with rfl
    exact ⟨hown,hnew'⟩
  ·rw [Zr hjk] at hs
   exact ⟨(h.nodes j hj s hs).1,hnode _ _ _ _ (h.nodes j hj s hs).2 (hln j hj k hk s hs) (hnew j hj s hs)⟩
 ·have n1 : ∀ b u,b ≠ p → b ≠ e → nxW w b u → nxW (Kt w (l k) e p (Xy (bs k)) (bs k).length v) b u := fun b u hb hbe hv =>
   Zi (Zi (Zi (Zi (Zi (Zi (Zi hv (by simp)) (Y2 (Ne.symm hbe))) (by simp)) (Y2 (Ne.symm hb))) (by simp)) (by simp)) (by simp)
  have n2 : ∀ b u,b ≠ l k → b ≠ e → pvW w b u → pvW (Kt w (l k) e p (Xy (bs k)) (bs k).length v) b u := fun b u hb hbe hv =>
   Zi (Zi (Zi (Zi (Zi (Zi (Zi hv (Y2 (Ne.symm hbe))) (by simp)) (by simp)) (by simp)) (Y2 (Ne.symm hb))) (by simp)) (by simp)
  have hmem : ∀ j,j < 3 → ∀ b,b = l j ∨ b ∈ (bs j).map (·.1) → b ≠ e := fun j hj b hb => by
   rcases hb with rfl | hb
   ·exact hle j hj
   ·obtain ⟨s,hs,rfl⟩ := Yd5.1 hb
    exact hnew j hj s hs
  by_cases hjk : j = k
  ·subst hjk
   rw [Zp,Yd0]
   have hC' : Qy (fun a b => nxW w a b ∧ a ≠ e) (fun a b => pvW w a b ∧ a ≠ e) (l j) ((bs j).map (·.1)) (l j) := hC.congr (fun b u hb hu => ⟨hu,hmem j hj b hb⟩) (fun b u hb hu => ⟨hu,hmem j hj b hb⟩)
   have e4 : w.cell? ⟨e,4,none⟩ = some u4 := Za he rfl
   have e3 : w.cell? ⟨e,3,none⟩ = some u3 := Za he rfl
   have l3 : pvW w (l j) p := by have := hC.last; rw [hp] at this; exact this
   have p4 : ∃ u,w.cell? ⟨p,4,none⟩ = some (P0 u) := by
    rcases Jb (l j) ((bs j).map (·.1)) with ⟨a,hb⟩ | a
    ·rw [hp] at a; rw [hb] at hC; rw [a]; exact ⟨_,hC.1⟩
    ·rw [hp] at a
     obtain ⟨A,B,hAB⟩ := Yen a
     rw [hAB] at hC
     exact ⟨_,hC.mid.2.2.1⟩
   obtain ⟨up,p4⟩ := p4
   refine hC'.push hlnk hlnk hD (fun b u hb hu => n1 b u (by rw [hp] at hb; exact hb) hu.2 hu.1) (fun b u hb hu => n2 b u hb hu.2 hu.1) ?_ ?_ ?_ ?_
   ·rw [hp]
    refine Zi (Zi (Zi ?_ (by simp)) (by simp)) (by simp)
    exact Yd8 _ _ _ (Zi (Zi (Zi p4 (by simp)) (Y2 (Ne.symm hpe))) (by simp))
   ·rw [hp]
    refine Zi (Zi (Zi (Zi (Zi (Zi ?_ (by simp)) (by simp)) (by simp)) (Y2 (hle j hj))) (by simp)) (by simp)
    exact Yd8 _ _ _ (e3)
   ·refine Zi (Zi (Zi (Zi (Zi ?_ (by simp)) (Y2 hpe)) (by simp)) (by simp)) (by simp)
    exact Yd8 _ _ _ (Zi e4 (by simp))
   ·refine Zi (Zi ?_ (by simp)) (by simp)
    unfold pvW at l3
    exact Yd8 _ _ _ (Zi (Zi (Zi (Zi l3 (Y2 (Ne.symm (hle j hj)))) (by simp)) (by simp)) (by simp))
  ·rw [Zr hjk]
   have hap : ∀ b,b = l j ∨ b ∈ (bs j).map (·.1) → b ≠ l k ∧ b ∉ (bs k).map (·.1) := fun b hb => by
    rcases hb with rfl | hb
    ·refine ⟨hll j hj hjk,fun hb => ?_⟩
     obtain ⟨s,hs,e⟩ := Yd5.1 hb
     exact hln k hk j hj s hs e
    ·obtain ⟨s,hs,rfl⟩ := Yd5.1 hb
     refine ⟨hln j hj k hk s hs,fun hb => ?_⟩
     obtain ⟨r,hr,e⟩ := Yd5.1 hb
     exact h.apart j k hj hk hjk s hs r hr e.symm
   refine (h.chain j hj).congr (fun b v hb => n1 b v ?_ (hmem j hj b hb)) (fun b v hb => n2 b v (hap b hb).1 (hmem j hj b hb))
   obtain ⟨a1,a2⟩ := hap b hb
   rcases hlast with q | q
   ·rw [q]; exact a1
   ·exact fun eb => a2 (eb ▸ q)
 ·by_cases hjk : j = k
  ·subst hjk
   rw [Zp,Yd0]
   refine Yeo.2 ⟨hD,by simp,fun a ha b hb => ?_⟩
   obtain ⟨s,hs,rfl⟩ := Yd5.1 ha
   simp only [Yea,List.map_nil,Yd7] at hb
   rw [hb]; exact hnew j hj s hs
  ·rw [Zr hjk]; exact h.nodup j hj
 ·have g : ∀ i,i < 3 → ∀ s,s ∈ Xc bs k (bs k ++ [(e,id,v)]) i → s ∈ bs i ∨ (i = k ∧ s.1 = e) := fun i hi s hs => by
   by_cases hik : i = k
   ·subst hik; rw [Zp] at hs
    rcases Yd6.1 hs with hs | hs
    ·exact .inl hs
    ·rcases Yd7.1 hs with rfl; exact .inr ⟨rfl,rfl⟩
   ·rw [Zr hik] at hs; exact .inl hs
  rcases g i hi s hs with a | ⟨a1,a2⟩ <;> rcases g j hj r hr with b | ⟨b1,b2⟩
  ·exact h.apart i j hi hj hij s a r b
  ·rw [b2]; exact hnew i hi s a
  ·rw [a2]; exact Ne.symm (hnew j hj r b)
  ·exact absurd (a1.trans b1.symm) hij
 ·by_cases hjk : j = k
  ·subst hjk; rw [Zp] at hs
   rcases Yd6.1 hs with hs | hs
   ·exact h.fine j hj s hs
   ·rcases Yd7.1 hs with rfl; exact ⟨hid,hv⟩
  ·rw [Zr hjk] at hs; exact h.fine j hj s hs
theorem Zvm {b n lo hi : Nat} (h : own b = n) (h1 : lo ≤ n) (h2 : n < hi) : Own own lo hi b := ⟨by omega,by omega⟩
abbrev Xi (r : List Nd) : List Nat := r.map (fun t => t.1)
structure Dq where
 rb : Nat
 m : Nat
 c : Nat
 l : Nat → Nat
 f : Int → Option Value
def tot (bs : Nat → List Nd) : Nat := (bs 0).length + (bs 1).length + (bs 2).length
structure Vg (own : Nat → Nat) (w : World) (x : Nat) (d : Dq) (bs : Nat → List Nd) : Prop where
 ox : own x = 30
 orb : own d.rb = 31
 om : own d.m = 32
 block : w.heap[x]? = some (.cells #[.slice (some ⟨d.rb,0,none⟩) 3 d.c,.map (some d.m)] 153 (0,0))
 row : ∀ k,k < 3 → w.cell? ⟨d.rb,k,none⟩ = some (P0 (d.l k))
 map : Zs w d.m d.f (tot bs)
 core : Ko own w d.l bs
 has : ∀ k,k < 3 → ∀ t ∈ bs k,d.f t.2.1 = some (P0 t.1)
 hasnt : ∀ id,(∀ k,k < 3 → ∀ t ∈ bs k,t.2.1 ≠ id) → d.f id = none
theorem Vg.kept {d : Dq} {bs : Nat → List Nd} {S : Nat → Prop} (h : Vg own w x d bs) (he : Ext w own own') (ho : Zb S w w') (hS : ∀ b,b < w.heap.size → 30 ≤ own b → own b < 37 → ¬ S b) : Vg own' w' x d bs := by
 have hx := Ze h.block
 have hrb : d.rb < w.heap.size := Yd9 w _ (h.row 0 (by omega))
 have hm := h.map.lt
 refine ⟨(he x hx).trans h.ox,(he _ hrb).trans h.orb,(he _ hm).trans h.om,ho.kept h.block (hS x hx (by rw [h.ox]; omega) (by rw [h.ox]; omega)),fun k hk => Zd (h.row k hk) ho (hS _ hrb (by rw [h.orb]; omega) (by rw [h.orb]; omega)),h.map.kept ho (hS _ hm (by rw [h.om]; omega) (by rw [h.om]; omega)),h.core.congr (fun b hb hl => ho.block b hb (hS b hb (by omega) (by omega))) he,h.has,h.hasnt⟩
theorem Ko.last {l : Nat → Nat} {bs : Nat → List Nd} (h : Ko own w l bs) (hk : k < 3) :
  w.cell? ⟨l k,3,none⟩ = some (P0 (Zx (l k) (Xi (bs k)))) ∧ (33 ≤ own (Zx (l k) (Xi (bs k))) ∧ own (Zx (l k) (Xi (bs k))) < 37) ∧ (∃ u,w.cell? ⟨Zx (l k) (Xi (bs k)),4,none⟩ = some (P0 u)) ∧ (∀ j,w.frozen? ⟨Zx (l k) (Xi (bs k)),j,none⟩ = false) := by
 have hC : Qy (nxW w) (pvW w) (l k) (Xi (bs k)) (l k) := h.chain k hk
 refine ⟨hC.last,?_⟩
 rcases Jb (l k) (Xi (bs k)) with ⟨a,hb⟩ | a
 ·rw [a]; rw [hb] at hC
  obtain ⟨h1,u3,u4,h2⟩ := h.lists k hk
  exact ⟨by omega,⟨_,hC.1⟩,fun j => Zc h2 j⟩
 ·obtain ⟨t,ht,e⟩ := Yd5.1 a
  obtain ⟨h1,u3,u4,h2⟩ := h.nodes k hk t ht
  rw [← e]
  refine ⟨by omega,?_,fun j => Zc h2 j⟩
  obtain ⟨A,B,hAB⟩ := Yen a
  rw [hAB] at hC
  rw [e]
  exact ⟨_,hC.mid.2.2.1⟩
theorem Ko.head {l : Nat → Nat} {bs : Nat → List Nd} (h : Ko own w l bs) (hk : k < 3) : w.cell? ⟨l k,4,none⟩ = some (P0 (Yx (l k) (Xi (bs k)))) := (h.chain k hk).first
theorem Ko.list67 {l : Nat → Nat} {bs : Nat → List Nd} (h : Ko own w l bs) (hk : k < 3) :
  w.cell? ⟨l k,0,none⟩ = some (.int .i64 0) ∧ w.cell? ⟨l k,5,none⟩ = some (.int .i64 (k : Int)) ∧ w.cell? ⟨l k,6,none⟩ = some (.int .i64 (Xy (bs k))) ∧ w.cell? ⟨l k,7,none⟩ = some (.int .i64 ((bs k).length : Int)) ∧ (∀ j,w.frozen? ⟨l k,j,none⟩ = false) ∧ l k < w.heap.size := by
 obtain ⟨h1,u3,u4,h2⟩ := h.lists k hk
 exact ⟨Za h2 rfl,Za h2 rfl,Za h2 rfl,Za h2 rfl,fun j => Zc h2 j,Ze h2⟩
theorem Ko.node5 {l : Nat → Nat} {bs : Nat → List Nd} (h : Ko own w l bs) (hk : k < 3) {t : Nd} (ht : t ∈ bs k) :
  own t.1 = 36 ∧ w.cell? ⟨t.1,0,none⟩ = some (.int .i64 t.2.1) ∧ w.cell? ⟨t.1,1,none⟩ = some (.int .i64 t.2.2) ∧ w.cell? ⟨t.1,2,none⟩ = some (.pointer (some ⟨l k,0,none⟩)) ∧ (∀ j,w.frozen? ⟨t.1,j,none⟩ = false) ∧ t.1 < w.heap.size := by
 obtain ⟨h1,u3,u4,h2⟩ := h.nodes k hk t ht
 exact ⟨h1,Za h2 rfl,Za h2 rfl,Za h2 rfl,fun j => Zc h2 j,Ze h2⟩
theorem Ko.sum {l : Nat → Nat} {bs : Nat → List Nd} (h : Ko own w l bs) (hk : k < 3) : 0 ≤ Xy (bs k) ∧ Xy (bs k) ≤ 2147483648 * ((bs k).length : Int) := Zy7 (fun t ht => (h.fine k hk t ht).2)
theorem Zd8 (bs : Nat → List Nd) (hk : k < 3) : (bs k).length ≤ tot bs := by
 unfold tot
 have : k = 0 ∨ k = 1 ∨ k = 2 := by omega
 rcases this with rfl | rfl | rfl <;> omega
theorem Zc0 (bs : Nat → List Nd) (hk : k < 3) (r : List Nd) : tot (Xc bs k r) + (bs k).length = tot bs + r.length := by
 unfold tot
 have : k = 0 ∨ k = 1 ∨ k = 2 := by omega
 rcases this with rfl | rfl | rfl <;> simp [Xc] <;> omega
theorem Zg5 {l p b : Nat} (h1 : b ≠ l) (h2 : b ≠ e) (h3 : b ≠ p) : (Kt w l e p W n v).heap[b]? = w.heap[b]? := by
 unfold Kt
 simp only [RowKit.Below.heap_setCell _ _ _ b (show b ≠ (⟨l,7,none⟩ : Addr).block from h1),RowKit.Below.heap_setCell _ _ _ b (show b ≠ (⟨l,6,none⟩ : Addr).block from h1),RowKit.Below.heap_setCell _ _ _ b (show b ≠ (⟨l,3,none⟩ : Addr).block from h1),RowKit.Below.heap_setCell _ _ _ b (show b ≠ (⟨p,4,none⟩ : Addr).block from h3),RowKit.Below.heap_setCell _ _ _ b (show b ≠ (⟨e,2,none⟩ : Addr).block from h2),RowKit.Below.heap_setCell _ _ _ b (show b ≠ (⟨e,3,none⟩ : Addr).block from h2),RowKit.Below.heap_setCell _ _ _ b (show b ≠ (⟨e,4,none⟩ : Addr).block from h2)]
theorem Zeq {l p q b : Nat} (h1 : b ≠ l) (h2 : b ≠ p) (h3 : b ≠ q) : (Xw w l p q W n v).heap[b]? = w.heap[b]? := by
 unfold Xw
 simp only [RowKit.Below.heap_setCell _ _ _ b (show b ≠ (⟨l,7,none⟩ : Addr).block from h1),RowKit.Below.heap_setCell _ _ _ b (show b ≠ (⟨l,6,none⟩ : Addr).block from h1),RowKit.Below.heap_setCell _ _ _ b (show b ≠ (⟨p,4,none⟩ : Addr).block from h2),RowKit.Below.heap_setCell _ _ _ b (show b ≠ (⟨q,3,none⟩ : Addr).block from h3)]
theorem Zis {w : World} {l e p : Nat} {W n v : Int} : (Kt w l e p W n v).os = w.os ∧ (Kt w l e p W n v).tape = w.tape ∧ (Kt w l e p W n v).output = w.output ∧ (Kt w l e p W n v).heap.size = w.heap.size := by unfold Kt; simp [Yel]
theorem Zmb {w : World} {l p q : Nat} {W n v : Int} : (Xw w l p q W n v).os = w.os ∧ (Xw w l p q W n v).tape = w.tape ∧ (Xw w l p q W n v).output = w.output ∧ (Xw w l p q W n v).heap.size = w.heap.size := by unfold Xw; simp [Yel]
theorem Zt4 {d : Dq} {bs : Nat → List Nd} (h : Vg own w x d bs) (hk : k < 3) : Calls Yd4 158 #[.pointer (some ⟨x,0,none⟩),.int .i64 (k : Int)] w fun e w' => e = .returned (.int .i64 (Xy (bs k))) ∧ w = w' :=
 Zkx x d.rb d.c k (d.l k) _ w hk (Za h.block rfl) (h.row k hk) (h.core.list67 hk).2.2.1
theorem Ych {d : Dq} {bs : Nat → List Nd} (h : Vg own w x d bs) (hk : k < 3) : Calls Yd4 161 #[.pointer (some ⟨x,0,none⟩),.int .i64 (k : Int)] w fun e w' => e = .returned (.int .i64 ((bs k).length : Int)) ∧ w = w' :=
 Zt0 x d.rb d.c k (d.l k) _ w hk (Za h.block rfl) (h.row k hk) (h.core.list67 hk).2.2.2.1
def Zo7 (r : List Nd) : Int := match r with | [] => 0 | t :: _ => t.2.1
def Zji (r : List Nd) : Int := match r.getLast? with | none => 0 | some t => t.2.1
theorem Zxo {d : Dq} {bs : Nat → List Nd} (h : Vg own w x d bs) (hk : k < 3) : Calls Yd4 159 #[.pointer (some ⟨x,0,none⟩),.int .i64 (k : Int)] w fun e w' => e = .returned (.int .i64 (Zo7 (bs k))) ∧ w = w' := by
 refine Zq1 x d.rb d.c k (d.l k) (Yx (d.l k) (Xi (bs k))) _ w hk (Za h.block rfl) (h.row k hk) (h.core.head hk) ?_
 cases hb : bs k with
 | nil => exact (h.core.list67 hk).1
 | cons t r => exact (h.core.node5 hk (t:=t) (by rw [hb]; exact Yd3)).2.1
theorem Znr (a : Nat) (r : List Nd) : Zx a (r.map (·.1)) = match r.getLast? with | none => a | some t => t.1 := by
 rcases List.eq_nil_or_concat r with rfl | ⟨r',t,rfl⟩
 ·rfl
 ·simp only [List.concat_eq_append,Yd0,Yea,List.map_nil,Zle,List.getLast?_append,List.getLast?_singleton,Option.some_or]
theorem Yad {d : Dq} {bs : Nat → List Nd} (h : Vg own w x d bs) (hk : k < 3) : Calls Yd4 160 #[.pointer (some ⟨x,0,none⟩),.int .i64 (k : Int)] w fun e w' => e = .returned (.int .i64 (Zji (bs k))) ∧ w = w' := by
 refine Ztn x d.rb d.c k (d.l k) (Zx (d.l k) (Xi (bs k))) _ w hk (Za h.block rfl) (h.row k hk) (h.core.last hk).1 ?_
 rw [Znr]
 unfold Zji
 cases hb : (bs k).getLast? with
 | none => exact (h.core.list67 hk).1
 | some t => exact (h.core.node5 hk (t:=t) (List.mem_of_getLast? hb)).2.1
theorem Ydi {d : Dq} {bs : Nat → List Nd} (h : Vg own w x d bs) (hk : k < 3) {t : Nd} (ht : t ∈ bs k) : Calls Yd4 114 #[.pointer (some ⟨x,0,none⟩),.int .i64 t.2.1] w fun e w' => e = .returned (.tuple #[.int .i64 (k : Int),.int .i64 t.2.2]) ∧ ∃ nq,w' = w.drewN nq := by
 have hf := (h.core.fine k hk t ht).1
 have h5 := h.core.node5 hk ht
 exact Ya3 x d.m t.1 (d.l k) _ d.f t.2.1 (k : Int) t.2.2 w ⟨by omega,by omega⟩ (Za h.block rfl) h.map (h.has k hk t ht) h5.2.2.1 h5.2.2.2.1 (h.core.list67 hk).2.1
theorem Yaf {d : Dq} {bs : Nat → List Nd} (h : Vg own w x d bs) (hk : k < 3) (hnew : ∀ j,j < 3 → ∀ t ∈ bs j,t.2.1 ≠ id) (hid : 1 ≤ id ∧ id ≤ 65536) (hv : 0 ≤ v ∧ v ≤ 2147483648) (htot : tot bs ≤ 400) :
  Calls Yd4 64 #[.pointer (some ⟨x,0,none⟩),.int .i64 (k : Int),.int .i64 id,.int .i64 v] w fun r w' => r = .returned (.int .i64 0) ∧ ∃ own' d',Ext w own own' ∧ Vg own' w' x d' (Xc bs k (bs k ++ [(w.heap.size,id,v)])) ∧ Zb (Own own 30 37) w w' := by
 obtain ⟨l3,hpo,⟨u,p4⟩,fp⟩ := h.core.last hk
 obtain ⟨l0,l5,l6,l7,fl,hlb⟩ := h.core.list67 hk
 have hlo := (h.core.lists k hk).1
 have Jq := h.core.sum hk
 have hlen := Zd8 bs hk
 have hxm : x ≠ d.m := fun e => by have := h.ox; have := h.om; rw [e] at *; omega
 have hxb := Ze h.block
 have hmb := h.map.lt
 have hrbb : d.rb < w.heap.size := Yd9 w _ (h.row 0 (by omega))
 have hpb : Zx (d.l k) (Xi (bs k)) < w.heap.size := Yd9 w _ p4
 refine (Zqp x d.rb d.m d.c k (d.l k) (Zx (d.l k) (Xi (bs k))) _ d.f id v _ _ (P0 u) w hk (Za h.block rfl) (Za h.block rfl) (h.row k hk) h.map (by omega) (h.hasnt id hnew) hid hv l3 l6 l7 p4 fl fp
  (fun e => by have := h.om; rw [e] at hlo; omega) (fun e => by have := h.om; rw [e] at hpo; omega) (by omega) (by omega)).mono ?_
 rintro r w' ⟨rfl,w4,hm4,ht4,hs⟩
 have hw4 : ∀ b,b < w.heap.size → b ≠ d.m → w4.heap[b]? = w.heap[b]? := fun b hb hn => by rw [Yq ht4 hn,RowKit.Below.heap_alloc w _ b hb]
 have he4 : w4.heap[w.heap.size]? = some (Zgo id v) := by rw [Yq ht4 (by omega)]; exact Zh _ _
 have hext : Ext w own (ext own w.heap.size 36) := Jp w own 36
 have hc4 : Ko (ext own w.heap.size 36) w4 d.l bs := h.core.congr (fun b hb ho => hw4 b hb (fun e => by have := h.om; rw [e] at ho; omega)) hext
 have hc5 := hc4.push hk (e:=w.heap.size) (id:=id) (v:=v) he4 (Jz (Nat.le_refl _)) (fun j hj t ht e => by have := (h.core.node5 hj ht).2.2.2.2.2; omega) hid hv
 have hfar : ∀ b,b < w.heap.size → ¬ (33 ≤ own b ∧ own b < 37) → w'.heap[b]? = w4.heap[b]? := fun b hb ho => by
  rw [hs.heap]
  exact Zg5 (fun e => ho (by rw [e]; omega)) (by omega) (fun e => ho (by rw [e]; exact hpo))
 refine ⟨rfl,ext own w.heap.size 36,{ d with f := upd d.f id (some (P0 w.heap.size)) },hext,⟨?_,?_,?_,?_,fun j hj => ?_,?_,hc5.sm hs,fun j hj t ht => ?_,fun i hi => ?_⟩,?_⟩
 ·rw [Zz hxb]; exact h.ox
 ·show ext own w.heap.size 36 d.rb = 31
  rw [Zz hrbb]; exact h.orb
 ·show ext own w.heap.size 36 d.m = 32
  rw [Zz hmb]; exact h.om
 ·rw [hfar x hxb (by have := h.ox; omega),hw4 x hxb hxm]; exact h.block
 ·have hrm : d.rb ≠ d.m := fun e => by have h1 := h.orb; have h2 := h.om; rw [e] at h1; omega
  rw [Yed (w:=w) ((hfar d.rb hrbb (by have := h.orb; omega)).trans (hw4 d.rb hrbb hrm))]
  exact h.row j hj
 ·have e1 := Zc0 bs hk (bs k ++ [(w.heap.size,id,v)])
  simp only [Yeb,Yee,List.length_nil] at e1
  rw [show tot (Xc bs k (bs k ++ [(w.heap.size,id,v)])) = tot bs + 1 from by omega]
  exact hm4.of_block (hfar d.m hmb (by have := h.om; omega))
 ·show upd d.f id (some (P0 w.heap.size)) t.2.1 = some (P0 t.1)
  by_cases hjk : j = k
  ·subst hjk
   rw [Zp] at ht
   rcases Yd6.1 ht with ht | ht
   ·rw [Jk (hnew j hj t ht)]; exact h.has j hj t ht
   ·rcases Yd7.1 ht with rfl; exact Za4 _ _ _
  ·rw [Zr hjk] at ht
   rw [Jk (hnew j hj t ht)]; exact h.has j hj t ht
 ·show upd d.f id (some (P0 w.heap.size)) i = none
  have hne : i ≠ id := fun e => hi k hk (w.heap.size,id,v) (by rw [Zp]; exact Ydz _ (Yd7.2 rfl)) e.symm
  rw [Jk hne]
  refine h.hasnt i fun j hj t ht => hi j hj t ?_
  by_cases hjk : j = k
  ·subst hjk; rw [Zp]; exact Yd1 _ ht
  ·rw [Zr hjk]; exact ht
 ·have o1 : Zb (Own own 30 37) w w4 := ((Zb.refl _ w).alloc _).turned ht4 (.inl ⟨by rw [h.om]; omega,by rw [h.om]; omega⟩)
  have o2 := @Zis w4 (d.l k) w.heap.size (Zx (d.l k) (Xi (bs k))) (Xy (bs k)) ((bs k).length : Int) v
  exact ⟨hs.os.trans (o2.1.trans o1.os),hs.tape.trans (o2.2.1.trans o1.tape),hs.output.trans (o2.2.2.1.trans o1.output),by rw [hs.heap,o2.2.2.2]; exact o1.size,fun b hb hn =>
   (hfar b hb (fun q => hn ⟨by omega,by omega⟩)).trans (hw4 b hb (fun e => hn ⟨by rw [e,h.om]; omega,by rw [e,h.om]; omega⟩))⟩
theorem Zcs {α : Type} {A B : List α} {x : α} (h : (A ++ x :: B).Nodup) : x ∉ A ++ B := by
 intro hm
 obtain ⟨_,h2,h3⟩ := Yeo.1 h
 rcases Yd6.1 hm with hm | hm
 ·exact h3 x hm x Yd3 rfl
 ·exact (Yei.1 h2).1 hm
theorem Ko.at {l : Nat → Nat} {bs : Nat → List Nd} (h : Ko own w l bs) (hk : k < 3) {A B : List Nd} {t : Nd} (hbs : bs k = A ++ t :: B) :
  w.cell? ⟨t.1,3,none⟩ = some (P0 (Zx (l k) (Xi A))) ∧ w.cell? ⟨t.1,4,none⟩ = some (P0 (Yx (l k) (Xi B))) ∧ (∃ u,w.cell? ⟨Zx (l k) (Xi A),4,none⟩ = some u) ∧ (∃ u,w.cell? ⟨Yx (l k) (Xi B),3,none⟩ = some u) ∧
  (33 ≤ own (Zx (l k) (Xi A)) ∧ own (Zx (l k) (Xi A)) < 37) ∧ (33 ≤ own (Yx (l k) (Xi B)) ∧ own (Yx (l k) (Xi B)) < 37) ∧ (∀ j,w.frozen? ⟨Zx (l k) (Xi A),j,none⟩ = false) ∧ (∀ j,w.frozen? ⟨Yx (l k) (Xi B),j,none⟩ = false) := by
 have hC : Qy (nxW w) (pvW w) (l k) (Xi A ++ t.1 :: Xi B) (l k) := by
  have := h.chain k hk
  rw [hbs,Yd0,Yea] at this
  exact this
 obtain ⟨m1,m2,m3,m4⟩ := hC.mid
 obtain ⟨h1,u3,u4,h2⟩ := h.lists k hk
 have hb : ∀ b,b ∈ Xi (bs k) → (33 ≤ own b ∧ own b < 37) ∧ ∀ j,w.frozen? ⟨b,j,none⟩ = false := fun b hb => by
  obtain ⟨s,hs,rfl⟩ := Yd5.1 hb
  obtain ⟨g1,v3,v4,g2⟩ := h.nodes k hk s hs
  exact ⟨by omega,fun j => Zc g2 j⟩
 have hl : (33 ≤ own (Zx (l k) (Xi A)) ∧ own (Zx (l k) (Xi A)) < 37) ∧ ∀ j,w.frozen? ⟨Zx (l k) (Xi A),j,none⟩ = false := by
  rcases Jb (l k) (Xi A) with ⟨a,_⟩ | a
  ·rw [a]; exact ⟨by omega,fun j => Zc h2 j⟩
  ·exact hb _ (by rw [hbs]; show _ ∈ Yep _ _; rw [Yd0]; exact Yd1 _ a)
 have hh : (33 ≤ own (Yx (l k) (Xi B)) ∧ own (Yx (l k) (Xi B)) < 37) ∧ ∀ j,w.frozen? ⟨Yx (l k) (Xi B),j,none⟩ = false := by
  rcases Zdi (l k) (Xi B) with ⟨a,_⟩ | a
  ·rw [a]; exact ⟨by omega,fun j => Zc h2 j⟩
  ·exact hb _ (by rw [hbs]; show _ ∈ Yep _ _; rw [Yd0,Yea]; exact Ydz _ (Yd2 _ a))
 exact ⟨m2,m3,⟨_,m1⟩,⟨_,m4⟩,hl.1,hh.1,hl.2,hh.2⟩
theorem Zt3 {d : Dq} {bs : Nat → List Nd} (h : Vg own w x d bs) (hk : k < 3) {A B : List Nd} {t : Nd} (hbs : bs k = A ++ t :: B) (htot : tot bs ≤ 400) :
  Calls Yd4 116 #[.pointer (some ⟨x,0,none⟩),.int .i64 t.2.1] w fun r w' => r = .returned (.int .i64 0) ∧ ∃ d',Vg own w' x d' (Xc bs k (A ++ B)) ∧ Zb (Own own 30 37) w w' := by
 have ht : t ∈ bs k := by rw [hbs]; exact Ydz _ Yd3
 obtain ⟨e3,e4,⟨u,p4⟩,⟨u',q3⟩,hpo,hqo,fp,fq⟩ := h.core.at hk hbs
 obtain ⟨l0,l5,l6,l7,fl,hlb⟩ := h.core.list67 hk
 obtain ⟨eo,e0,e1,e2,fe,heb⟩ := h.core.node5 hk ht
 have hlo := (h.core.lists k hk).1
 have Jq := h.core.sum hk
 have hlen := Zd8 bs hk
 have hfin := h.core.fine k hk t ht
 have hox := h.ox
 have hom := h.om
 have horb := h.orb
 have hnm : ∀ b,33 ≤ own b ∧ own b < 37 → d.m ≠ b := fun b hb e => by rw [← e] at hb; omega
 have hnx : ∀ b,33 ≤ own b ∧ own b < 37 → b ≠ x := fun b hb e => by rw [e] at hb; omega
 refine (Zkw x d.m (d.l k) t.1 (Zx (d.l k) (Xi A)) (Yx (d.l k) (Xi B)) _ d.f t.2.1 t.2.2 (Xy (bs k)) ((bs k).length : Int) u u' w (Za h.block rfl) h.map (h.has k hk t ht) hfin.1 e1 e2 e3 e4 p4 q3 l6 l7 (fp 4) (fq 3) fl
  (by omega) (by omega) hfin.2 (hnm _ hpo) (hnm _ hqo) (hnm _ (by omega)) (hnx _ hpo) (hnx _ hqo) (hnx _ (by omega))).mono ?_
 rintro r w' ⟨rfl,hm',hblk,hon⟩
 obtain ⟨c1,_⟩ := h.core.unlink hk hbs
 have hon' : Zb (Own own 30 37) w w' := hon.mono fun b _ hb => by
  rcases hb with rfl | rfl | rfl | rfl
  ·exact ⟨by omega,by omega⟩
  ·exact ⟨by omega,by omega⟩
  ·exact ⟨by omega,by omega⟩
  ·exact ⟨by omega,by omega⟩
 have hfar : ∀ b,¬ (33 ≤ own b ∧ own b < 37) → b ≠ d.m → w'.heap[b]? = w.heap[b]? := fun b hb hm => by
  rw [hblk b hm]
  exact Zeq (fun e => hb (by rw [e]; omega)) (fun e => hb (by rw [e]; exact hpo)) (fun e => hb (by rw [e]; exact hqo))
 have hsub : ∀ s,s ∈ A ++ B → s ∈ bs k ∧ s.1 ≠ t.1 := fun s hs => by
  have hD := h.core.nodup k hk
  rw [hbs,Yd0,Yea] at hD
  have hn := Zcs hD
  refine ⟨?_,fun e => hn ?_⟩
  ·rw [hbs]
   rcases Yd6.1 hs with hs | hs
   ·exact Yd1 _ hs
   ·exact Ydz _ (Yd2 _ hs)
  ·rw [← e,← Yd0]
   exact Yd5.2 ⟨s,hs,rfl⟩
 have hback : ∀ j,j < 3 → ∀ s,s ∈ Xc bs k (A ++ B) j → s ∈ bs j ∧ s.2.1 ≠ t.2.1 := fun j hj s hs => by
  have hs' : s ∈ bs j ∧ s.1 ≠ t.1 := by
   by_cases hjk : j = k
   ·subst hjk; rw [Zp] at hs; exact hsub s hs
   ·rw [Zr hjk] at hs; exact ⟨hs,h.core.apart j k hj hk hjk s hs t ht⟩
  refine ⟨hs'.1,fun e => hs'.2 ?_⟩
  have a := h.has j hj s hs'.1
  have b := h.has k hk t ht
  rw [e,b] at a
  simp only [P0,Option.some.injEq,Value.pointer.injEq,Addr.mk.injEq,and_true] at a
  exact a.symm
 refine ⟨rfl,{ d with f := upd d.f t.2.1 none },⟨hox,horb,hom,?_,fun j hj => ?_,?_,?_,fun j hj s hs => ?_,fun i hi => ?_⟩,hon'⟩
 ·rw [hfar x (by omega) (fun e => by rw [e] at hox; omega)]; exact h.block
 ·have hrm : d.rb ≠ d.m := fun e => by rw [e] at horb; omega
  rw [Yed (w:=w) (hfar d.rb (by omega) hrm)]
  exact h.row j hj
 ·have q := Zc0 bs hk (A ++ B)
  have q2 : (bs k).length = A.length + B.length + 1 := by rw [hbs]; simp only [Yeb,Yee]; omega
  simp only [Yeb] at q
  rw [show tot (Xc bs k (A ++ B)) = tot bs - 1 from by omega]
  exact hm'
 ·refine c1.congr (fun b _ hb => hblk b (fun e => by rw [e] at hb; omega)) (fun _ _ => rfl)
 ·show upd d.f t.2.1 none s.2.1 = some (P0 s.1)
  obtain ⟨a,b⟩ := hback j hj s hs
  rw [Jk b]; exact h.has j hj s a
 ·show upd d.f t.2.1 none i = none
  by_cases hit : i = t.2.1
  ·subst hit; exact Za4 _ _ _
  ·rw [Jk hit]
   refine h.hasnt i fun j hj s hs => ?_
   by_cases hjk : j = k
   ·subst hjk
    rw [hbs] at hs
    rcases Yd6.1 hs with hs' | hs'
    ·exact hi j hj s (by rw [Zp]; exact Yd1 _ hs')
    ·rcases Yef.1 hs' with rfl | hs'
     ·exact fun e => hit e.symm
     ·exact hi j hj s (by rw [Zp]; exact Ydz _ hs')
   ·exact hi j hj s (by rw [Zr hjk]; exact hs)
def moved (bs : Nat → List Nd) (k i : Nat) (A B : List Nd) (t : Nd) : Nat → List Nd := Xc (Xc bs k (A ++ B)) i (Xc bs k (A ++ B) i ++ [t])
theorem Yae {d : Dq} {bs : Nat → List Nd} (h : Vg own w x d bs) {i : Nat} (hk : k < 3) (hi : i < 3) {A B : List Nd} {t : Nd} (hbs : bs k = A ++ t :: B) (htot : tot bs ≤ 400) :
  Calls Yd4 115 #[.pointer (some ⟨x,0,none⟩),.int .i64 t.2.1,.int .i64 (i : Int)] w fun r w' => r = .returned (.int .i64 0) ∧ (Vg own w' x d (moved bs k i A B t) ∧ Zb (Own own 30 37) w w') := by
 have ht : t ∈ bs k := by rw [hbs]; exact Ydz _ Yd3
 have hfin := h.core.fine k hk t ht
 have hox := h.ox
 have hom := h.om
 have horb := h.orb
 have Jq := h.core.sum hk
 have hlen := Zd8 bs hk
 obtain ⟨e3,e4,⟨u,p4⟩,⟨u',q3⟩,hpo,hqo,fp,fq⟩ := h.core.at hk hbs
 obtain ⟨l0,l5,l6,l7,fl,hlb⟩ := h.core.list67 hk
 obtain ⟨eo,e0,e1,e2,fe,heb⟩ := h.core.node5 hk ht
 have hlo := (h.core.lists k hk).1
 refine Zu5 x d.rb d.m d.c i t.1 (d.l i) _ d.f t.2.1 w
  (fun w1 => Ko own w1 d.l (Xc bs k (A ++ B)) ∧ Q8 w1 t.1 t.2.1 t.2.2 (d.l k) ∧ Zb (Own own 33 37) w w1)
  (fun w' => Vg own w' x d (moved bs k i A B t) ∧ Zb (Own own 30 37) w w') hi (Za h.block rfl) (Za h.block rfl) (h.row i hi) h.map (h.has k hk t ht) hfin.1 (fun w1 hs1 => ?_) (fun w1 ha => ?_)
 ·refine (Zhj (d.l k) t.1 (Zx (d.l k) (Xi A)) (Yx (d.l k) (Xi B)) (Xy (bs k)) ((bs k).length : Int) t.2.2 u u' w1 (by rw [hs1.cell]; exact e1) (by rw [hs1.cell]; exact e2) (by rw [hs1.cell]; exact e3) (by rw [hs1.cell]; exact e4) (by rw [hs1.cell]; exact p4) (by rw [hs1.cell]; exact q3) (by rw [hs1.cell]; exact l6) (by rw [hs1.cell]; exact l7)
   (by rw [hs1.frozen]; exact fp 4) (by rw [hs1.frozen]; exact fq 3) (fun j => by rw [hs1.frozen]; exact fl j) (by omega) (by omega) hfin.2).mono ?_
  rintro r w2 ⟨rfl,hs2⟩
  obtain ⟨c1,c2⟩ := (h.core.sm hs1).unlink hk hbs
  refine ⟨rfl,c1.sm hs2,?_,?_⟩
  ·obtain ⟨v3,v4,hv⟩ := c2
   exact ⟨v3,v4,hs2.block hv⟩
  ·refine (hs1.only.trans ?_).trans hs2.only
   have q := @Zmb w1 (d.l k) (Zx (d.l k) (Xi A)) (Yx (d.l k) (Xi B)) (Xy (bs k)) ((bs k).length : Int) t.2.2
   exact ⟨q.1,q.2.1,q.2.2.1,Nat.le_of_eq q.2.2.2.symm,fun b _ hn => Zeq (fun e => hn ⟨by rw [e]; omega,by rw [e]; omega⟩) (fun e => hn ⟨by rw [e]; omega,by rw [e]; omega⟩) (fun e => hn ⟨by rw [e]; omega,by rw [e]; omega⟩)⟩
 ·obtain ⟨c1,⟨v3,v4,hv⟩,ho1⟩ := ha
  obtain ⟨l3',hpo',⟨u2,p4'⟩,fp'⟩ := c1.last hi
  obtain ⟨l0',l5',l6',l7',fl',hlb'⟩ := c1.list67 hi
  have hsum' := c1.sum hi
  have hlo' := (c1.lists i hi).1
  have hlen' := Zd8 (Xc bs k (A ++ B)) hi
  have q := Zc0 bs hk (A ++ B)
  have q2 : (bs k).length = A.length + B.length + 1 := by rw [hbs]; simp only [Yeb,Yee]; omega
  simp only [Yeb] at q
  have hnew : ∀ j,j < 3 → ∀ s ∈ Xc bs k (A ++ B) j,s.1 ≠ t.1 := fun j hj s hs => by
   by_cases hjk : j = k
   ·subst hjk; rw [Zp] at hs
    have hD := h.core.nodup j hj
    rw [hbs,Yd0,Yea] at hD
    have hn := Zcs hD
    exact fun e => hn (by rw [← e,← Yd0]; exact Yd5.2 ⟨s,hs,rfl⟩)
   ·rw [Zr hjk] at hs; exact h.core.apart j k hj hk hjk s hs t ht
  have hle : d.l i ≠ t.1 := fun e => by rw [e] at hlo'; omega
  have hpe : t.1 ≠ Zx (d.l i) (Xi (Xc bs k (A ++ B) i)) := fun e => by
   rcases Jb (d.l i) (Xi (Xc bs k (A ++ B) i)) with ⟨a,_⟩ | a
   ·exact hle (e.trans a).symm
   ·obtain ⟨s,hs,es⟩ := Yd5.1 a
    exact hnew i hi s hs (es.trans e.symm)
  refine (Zls (d.l i) t.1 (Zx (d.l i) (Xi (Xc bs k (A ++ B) i))) (Xy (Xc bs k (A ++ B) i)) ((Xc bs k (A ++ B) i).length : Int) t.2.2 _ _ _ _ w1 l3' l6' l7' (Za hv rfl) (Za hv rfl) (Za hv rfl) (Za hv rfl) p4' hle.symm hpe hpe.symm fl' (fun j => Zc hv j) fp' (by omega) (by omega) hfin.2).mono ?_
  rintro r w2 ⟨rfl,hs2⟩
  have c2 := (c1.push hi hv eo hnew hfin.1 hfin.2).sm hs2
  have hfar : ∀ b,¬ (33 ≤ own b ∧ own b < 37) → w2.heap[b]? = w1.heap[b]? := fun b hb => by
   rw [hs2.heap]
   exact Zg5 (fun e => hb (by rw [e]; omega)) (fun e => hb (by rw [e]; omega)) (fun e => hb (by rw [e]; exact hpo'))
  have qo := @Zis w1 (d.l i) t.1 (Zx (d.l i) (Xi (Xc bs k (A ++ B) i))) (Xy (Xc bs k (A ++ B) i)) ((Xc bs k (A ++ B) i).length : Int) t.2.2
  have ho2 : Zb (Own own 33 37) w w2 := ho1.trans ⟨hs2.os.trans qo.1,hs2.tape.trans qo.2.1,hs2.output.trans qo.2.2.1,by rw [hs2.heap]; exact Nat.le_of_eq qo.2.2.2.symm,fun b _ hn => hfar b hn⟩
  have hall : ∀ j,∀ s,s ∈ moved bs k i A B t j → s ∈ bs j ∨ s = t := fun j s hs => by
   have g : ∀ s,s ∈ Xc bs k (A ++ B) j → s ∈ bs j := fun s hs => by
    by_cases hjk : j = k
    ·subst hjk; rw [Zp] at hs; rw [hbs]
     rcases Yd6.1 hs with hs | hs
     ·exact Yd1 _ hs
     ·exact Ydz _ (Yd2 _ hs)
    ·rw [Zr hjk] at hs; exact hs
   unfold moved at hs
   by_cases hji : j = i
   ·subst hji; rw [Zp] at hs
    rcases Yd6.1 hs with hs | hs
    ·exact .inl (g s hs)
    ·exact .inr (Yd7.1 hs)
   ·rw [Zr hji] at hs; exact .inl (g s hs)
  refine ⟨rfl,⟨hox,horb,hom,ho2.kept h.block (fun hO => by have := hO.1; omega),fun j hj => Zd (h.row j hj) ho2 (fun hO => by have := hO.1; simp only at this; omega),?_,c2,fun j hj s hs => ?_,fun id hid => ?_⟩,ho2.mono fun b _ hO => ⟨by have := hO.1; omega,hO.2⟩⟩
  ·have q3 := Zc0 (Xc bs k (A ++ B)) hi (Xc bs k (A ++ B) i ++ [t])
   simp only [Yeb,Yee,List.length_nil] at q3
   rw [show tot (moved bs k i A B t) = tot bs from by unfold moved; omega]
   exact h.map.kept ho2 (fun hO => by have := hO.1; omega)
  ·rcases hall j s hs with a | rfl
   ·exact h.has j hj s a
   ·exact h.has k hk s ht
  ·refine h.hasnt id fun j hj s hs => ?_
   have hin : ∀ s,s ∈ Xc bs k (A ++ B) j → s ∈ moved bs k i A B t j := fun s hs => by
    unfold moved
    by_cases hji : j = i
    ·subst hji; rw [Zp]; exact Yd1 _ hs
    ·rw [Zr hji]; exact hs
   by_cases hst : s = t
   ·subst hst
    exact hid i hi s (by unfold moved; rw [Zp]; exact Ydz _ (Yd7.2 rfl))
   ·by_cases hjk : j = k
    ·subst hjk
     rw [hbs] at hs
     refine hid j hj s (hin s ?_)
     rw [Zp]
     rcases Yd6.1 hs with a | a
     ·exact Yd1 _ a
     ·rcases Yef.1 a with a | a
      ·exact absurd a hst
      ·exact Ydz _ a
    ·exact hid j hj s (hin s (by rw [Zr hjk]; exact hs))
theorem Zqq {d : Dq} {bs : Nat → List Nd} (h : Vg own w x d bs) (hk : k < 3) {A B : List Nd} {t : Nd} (hbs : bs k = A ++ t :: B) (hv : 0 ≤ v ∧ v ≤ 2147483648) (htot : tot bs ≤ 400) :
  Calls Yd4 66 #[.pointer (some ⟨x,0,none⟩),.int .i64 t.2.1,.int .i64 v] w fun r w' => r = .returned (.int .i64 0) ∧ Vg own w' x d (Xc bs k (A ++ (t.1,t.2.1,v) :: B)) ∧ Zb (Own own 30 37) w w' := by
 have ht : t ∈ bs k := by rw [hbs]; exact Ydz _ Yd3
 have hfin := h.core.fine k hk t ht
 have hox := h.ox
 have hom := h.om
 have horb := h.orb
 have Jq := h.core.sum hk
 have hlen := Zd8 bs hk
 obtain ⟨l0,l5,l6,l7,fl,hlb⟩ := h.core.list67 hk
 obtain ⟨eo,e0,e1,e2,fe,heb⟩ := h.core.node5 hk ht
 have hlo := (h.core.lists k hk).1
 refine (Zlv x d.m (d.l k) t.1 _ d.f t.2.1 t.2.2 v _ w (Za h.block rfl) h.map (h.has k hk t ht) hfin.1 e1 e2 l6 (fe 1) (fl 6) (by omega) hfin.2 hv).mono ?_
 rintro r w' ⟨rfl,hs⟩
 have ho : Zb (Own own 33 37) w w' := by
  refine Sm.then_only ?_ hs
  exact ((Zb.refl _ w).setCell (p:=⟨d.l k,6,none⟩) (.inl (Zvm hlo (by omega) (by omega))) _).setCell (p:=⟨t.1,1,none⟩) (.inl (Zvm eo (by omega) (by omega))) _
 have hD : (Xi A ++ t.1 :: Xi B).Nodup := by
  have := h.core.nodup k hk
  rw [hbs,Yd0,Yea] at this
  exact this
 have hmap : Xi (A ++ (t.1,t.2.1,v) :: B) = Xi (bs k) := by rw [hbs]; simp [Xi]
 have hlen2 : (A ++ (t.1,t.2.1,v) :: B).length = (bs k).length := by rw [hbs]; simp
 have hln : ∀ j,j < 3 → ∀ i,i < 3 → ∀ s ∈ bs j,s.1 ≠ d.l i := fun j hj i hi s hs e => by
  have h1 := (h.core.nodes j hj s hs).1
  have h2 := (h.core.lists i hi).1
  rw [e] at h1; omega
 have hmem : ∀ s,s ∈ A ++ (t.1,t.2.1,v) :: B → s = (t.1,t.2.1,v) ∨ (s ∈ bs k ∧ s.1 ≠ t.1) := fun s hs => by
  have hn := Zcs hD
  have g : s ∈ A ++ B → s ∈ bs k ∧ s.1 ≠ t.1 := fun hs => by
   refine ⟨?_,fun e => hn ?_⟩
   ·rw [hbs]
    rcases Yd6.1 hs with hs | hs
    ·exact Yd1 _ hs
    ·exact Ydz _ (Yd2 _ hs)
   ·rw [← e]
    show s.1 ∈ Yep _ A ++ Yep _ B
    rw [← Yd0]
    exact Yd5.2 ⟨s,hs,rfl⟩
  rcases Yd6.1 hs with a | a
  ·exact .inr (g (Yd1 _ a))
  ·rcases Yef.1 a with a | a
   ·exact .inl a
   ·exact .inr (g (Ydz _ a))
 have hnode : ∀ j,j < 3 → ∀ s ∈ bs j,s.1 ≠ t.1 → Q8 w' s.1 s.2.1 s.2.2 (d.l j) := fun j hj s hs' hne => by
  obtain ⟨_,g⟩ := h.core.nodes j hj s hs'
  obtain ⟨u3,u4,g⟩ := (g.far (hln j hj k hk s hs') 6 (.int .i64 (Xy (bs k) + (v - t.2.2)))).far hne 1 (.int .i64 v)
  exact ⟨u3,u4,hs.block g⟩
 have hnt : Q8 w' t.1 t.2.1 v (d.l k) := by
  obtain ⟨_,u3,u4,g⟩ := h.core.nodes k hk t ht
  exact ⟨u3,u4,hs.block (Zj (Z7 g (hln k hk k hk t ht) 6 _) 1 _)⟩
 have hcell : ∀ b j,j = 3 ∨ j = 4 → ∀ u,w.cell? ⟨b,j,none⟩ = some u → w'.cell? ⟨b,j,none⟩ = some u := fun b j hj u hu => by
  rw [hs.cell]
  rcases hj with rfl | rfl
  ·exact Zi (Zi hu (by simp)) (by simp)
  ·exact Zi (Zi hu (by simp)) (by simp)
 refine ⟨rfl,⟨hox,horb,hom,ho.kept h.block (fun hO => by have := hO.1; omega),fun j hj => Zd (h.row j hj) ho (fun hO => by have := hO.1; simp only at this; omega),?_,⟨fun j hj => ?_,fun j hj s hs' => ?_,fun j hj => ?_,fun j hj => ?_,fun i j hi hj hij s hs1 r hr => ?_,fun j hj s hs' => ?_⟩,fun j hj s hs' => ?_,fun id hid => ?_⟩,ho.mono fun b _ hO => ⟨by have := hO.1; omega,hO.2⟩⟩
 ·have q := Zc0 bs hk (A ++ (t.1,t.2.1,v) :: B)
  rw [show tot (Xc bs k (A ++ (t.1,t.2.1,v) :: B)) = tot bs from by omega]
  exact h.map.kept ho (fun hO => by have := hO.1; omega)
 ·obtain ⟨h1,h2⟩ := h.core.lists j hj
  refine ⟨h1,?_⟩
  by_cases hjk : j = k
  ·subst hjk
   rw [Zp]
   have e1 : Xy (A ++ (t.1,t.2.1,v) :: B) = Xy (bs j) + (v - t.2.2) := by rw [hbs,K9,K9]; simp only [Xy]; omega
   rw [e1,hlen2]
   obtain ⟨u3,u4,g⟩ := (h2.set6 (Xy (bs j) + (v - t.2.2))).far (Ne.symm (hln j hj j hk t ht)) 1 (.int .i64 v)
   exact ⟨u3,u4,hs.block g⟩
  ·rw [Zr hjk]
   have hll : d.l j ≠ d.l k := fun e => by rw [e] at h1; omega
   obtain ⟨u3,u4,g⟩ := (h2.far hll 6 (.int .i64 (Xy (bs k) + (v - t.2.2)))).far (Ne.symm (hln k hk j hj t ht)) 1 (.int .i64 v)
   exact ⟨u3,u4,hs.block g⟩
 ·by_cases hjk : j = k
  ·subst hjk
   rw [Zp] at hs'
   rcases hmem s hs' with rfl | ⟨a,b⟩
   ·exact ⟨eo,hnt⟩
   ·exact ⟨(h.core.nodes j hj s a).1,hnode j hj s a b⟩
  ·rw [Zr hjk] at hs'
   exact ⟨(h.core.nodes j hj s hs').1,hnode j hj s hs' (h.core.apart j k hj hk hjk s hs' t ht)⟩
 ·have g : Qy (nxW w') (pvW w') (d.l j) (Xi (bs j)) (d.l j) := (h.core.chain j hj).congr (fun b u _ hu => hcell b 4 (.inr rfl) _ hu) (fun b u _ hu => hcell b 3 (.inl rfl) _ hu)
  by_cases hjk : j = k
  ·subst hjk
   rw [Zp]
   show Qy _ _ _ (Xi _) _
   rw [hmap]; exact g
  ·rw [Zr hjk]; exact g
 ·by_cases hjk : j = k
  ·subst hjk
   rw [Zp]
   show (Xi _).Nodup
   rw [hmap]; exact h.core.nodup j hj
  ·rw [Zr hjk]; exact h.core.nodup j hj
 ·have g : ∀ i,∀ s,s ∈ Xc bs k (A ++ (t.1,t.2.1,v) :: B) i → ∃ s' ∈ bs i,s'.1 = s.1 := fun i s hs' => by
   by_cases hik : i = k
   ·subst hik; rw [Zp] at hs'
    rcases hmem s hs' with rfl | ⟨a,_⟩
    ·exact ⟨t,ht,rfl⟩
    ·exact ⟨s,a,rfl⟩
   ·rw [Zr hik] at hs'; exact ⟨s,hs',rfl⟩
  obtain ⟨s',a1,a2⟩ := g i s hs1
  obtain ⟨r',b1,b2⟩ := g j r hr
  rw [← a2,← b2]
  exact h.core.apart i j hi hj hij s' a1 r' b1
 ·by_cases hjk : j = k
  ·subst hjk; rw [Zp] at hs'
   rcases hmem s hs' with rfl | ⟨a,_⟩
   ·exact ⟨hfin.1,hv⟩
   ·exact h.core.fine j hj s a
  ·rw [Zr hjk] at hs'; exact h.core.fine j hj s hs'
 ·by_cases hjk : j = k
  ·subst hjk; rw [Zp] at hs'
   rcases hmem s hs' with rfl | ⟨a,_⟩
   ·exact h.has j hj t ht
   ·exact h.has j hj s a
  ·rw [Zr hjk] at hs'; exact h.has j hj s hs'
 ·refine h.hasnt id fun j hj s hs' => ?_
  by_cases hjk : j = k
  ·subst hjk
   rw [hbs] at hs'
   rcases Yd6.1 hs' with a | a
   ·exact hid j hj s (by rw [Zp]; exact Yd1 _ a)
   ·rcases Yef.1 a with rfl | a
    ·exact hid j hj (s.1,s.2.1,v) (by rw [Zp]; exact Ydz _ Yd3)
    ·exact hid j hj s (by rw [Zp]; exact Ydz _ (Yd2 _ a))
  ·exact hid j hj s (by rw [Zr hjk]; exact hs')
end Go.Proofs.YtdkhbegheognnaaGreatDoor.W

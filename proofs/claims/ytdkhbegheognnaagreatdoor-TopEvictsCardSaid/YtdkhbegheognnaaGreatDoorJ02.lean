/- Part of the proof of TopEvicts, joined by a program of the session: Sk Row Do. -/
import Derived.Test.YtdkhbegheognnaaGreatDoorJ01
import Derived.OwnWalk
import Derived.Deep.RegionHeld3
import Derived.Laws.StructEq
import Derived.Laws.MakeOwn
import Derived.Lib.SliceRun
import Derived.BigFrame
namespace Go.Proofs.YtdkhbegheognnaaGreatDoor.W
open Go.RowKit Go.Maps
open _root_.Go.Proofs.Tryz renaming prog → Ydz, ntmps151 → Yd9, func151 → Yec, underlying196 → Yed, underlying290 → Yee
open _root_.List renaming getD_eq_getElem?_getD → Yd0, replicate → Yd1, getElem?_eq_getElem → Yd2, eq_of_mem_replicate → Yd5, length_eq_zero_iff → Yd6, length_set → Yd7, length_replicate → Yd8, drop_succ_cons → Yea, take_succ_cons → Yeb, append_assoc → Yef
open Ext renaming refl → Yd3
open _root_.Nat renaming le_refl → Yd4
set_option maxHeartbeats 4000000
set_option maxRecDepth 100000
variable {l dw : List Int}
variable {j x r k d e size n wb b : Nat}
variable {own own' rb : Nat → Nat}
variable {w w' wr : World}
variable {seed : Int}
variable {s : Sk}
variable {S : Nat → Prop}
variable {P : Program}
variable {ys : Array Value}
variable {f : Field}
variable {t : TypeId}
variable {v : Value}
variable {xs : List Value}
variable {ops : Array Oper}
variable {rest : List Oper}
variable {o : Oper}
variable {a : Act}
variable {Q : Exit → Act → World → Prop}
section
attribute [local go_sem] World.setCell_drew Zg Zf
theorem Zid (h : Int) (hh : U64 h) (r : Nat) (hr : r < 4) (n : Nat) (hn : 0 < n) (hn2 : n ≤ 100000) (w : World) : Calls Ydz 134 #[.int .u64 h,.int .i64 (r : Int),.int .i64 (n : Int)] w fun e w' => e = .returned (.int .i64 (Ye h r n : Int)) ∧ w = w' := by
 have : r = 0 ∨ r = 1 ∨ r = 2 ∨ r = 3 := by omega
 rcases this with rfl | rfl | rfl | rfl
 ·exact Znm h hh n hn hn2 w
 ·exact Yav h hh n hn hn2 w
 ·exact Zus h hh n hn hn2 w
 ·exact Yaw h hh n hn hn2 w
def Zfz (l : List Int) : Array Value := (l.map (Value.int .u64)).toArray
theorem Za2 (h : j < l.length) : (Zfz l)[j]? = some (.int .u64 (l.getD j 0)) := by
 unfold Zfz
 simp [Yd2 h]
theorem Zma (l : List Int) (j : Nat) (v : Int) : (Zfz l).setIfInBounds j (.int .u64 v) = Zfz (l.set j v) := by
 unfold Zfz
 simp
abbrev Sl (b n : Nat) : Value := .slice (some ⟨b,0,none⟩) n n
structure Q9 (own : Nat → Nat) (w : World) (x : Nat) (rb : Nat → Nat) (seed : Int) (s : Sk) : Prop where
 ox : own x = 24
 orb : ∀ r,r < 4 → own (rb r) = 25 + r
 block : w.heap[x]? = some (.cells #[.int .i64 (s.width : Int),.int .i64 seed,.int .i64 s.samples,Sl (rb 0) (s.width / 16),Sl (rb 1) (s.width / 16),Sl (rb 2) (s.width / 16),Sl (rb 3) (s.width / 16)] 199 (0,0))
 row : ∀ r,r < 4 → w.heap[rb r]? = some (.cells (Zfz (s.rows.getD r [])) 241 (0,0))
 len : ∀ r,r < 4 → (s.rows.getD r []).length = s.width / 16
 n4 : s.rows.length = 4
 u64 : ∀ r,r < 4 → ∀ v ∈ s.rows.getD r [],U64 v
 wd : ∃ n,s.width = 16 * n ∧ 1 ≤ n ∧ n ≤ 64
 smp : 0 ≤ s.samples ∧ s.samples ≤ 10 * (s.width : Int)
theorem Q9.kept (h : Q9 own w x rb seed s) (he : Ext w own own') (ho : Zb S w w') (hS : ∀ b,b < w.heap.size → 24 ≤ own b → own b < 29 → ¬ S b) : Q9 own' w' x rb seed s := by
 have hx := Ze h.block
 exact ⟨(he x hx).trans h.ox,fun r hr => (he _ (Ze (h.row r hr))).trans (h.orb r hr),ho.kept h.block (hS x hx (by rw [h.ox]; omega) (by rw [h.ox]; omega)),fun r hr => ho.kept (h.row r hr) (hS _ (Ze (h.row r hr)) (by rw [h.orb r hr]; omega) (by rw [h.orb r hr]; omega)),h.len,h.n4,h.u64,h.wd,h.smp⟩
theorem Q9.slice (h : Q9 own w x rb seed s) (hr : r < 4) : w.cell? ⟨x,3 + r,none⟩ = some (Sl (rb r) (s.width / 16)) := by
 have : r = 0 ∨ r = 1 ∨ r = 2 ∨ r = 3 := by omega
 rcases this with rfl | rfl | rfl | rfl <;> exact Za h.block rfl
def plA (h : Int) (n : Nat) : Value := .agg #[.int .i64 (Ye h 0 n : Int),.int .i64 (Ye h 1 n : Int),.int .i64 (Ye h 2 n : Int),.int .i64 (Ye h 3 n : Int)]
theorem ix0 (p0 p1 p2 p3 : Value) (w : World) : (Instr.index 250 (.agg #[p0,p1,p2,p3]) (.int .i64 0)).run Ydz w = .ok p0 w := by kernel_rfl
theorem ix1 (p0 p1 p2 p3 : Value) (w : World) : (Instr.index 250 (.agg #[p0,p1,p2,p3]) (.int .i64 1)).run Ydz w = .ok p1 w := by kernel_rfl
theorem ix2 (p0 p1 p2 p3 : Value) (w : World) : (Instr.index 250 (.agg #[p0,p1,p2,p3]) (.int .i64 2)).run Ydz w = .ok p2 w := by kernel_rfl
theorem ix3 (p0 p1 p2 p3 : Value) (w : World) : (Instr.index 250 (.agg #[p0,p1,p2,p3]) (.int .i64 3)).run Ydz w = .ok p3 w := by kernel_rfl
theorem Ya6 (h : Int) (n r : Nat) (hr : r < 4) (w : World) : (Instr.index 250 (plA h n) (.int .i64 (r : Int))).run Ydz w = .ok (.int .i64 (Ye h r n : Int)) w := by
 have : r = 0 ∨ r = 1 ∨ r = 2 ∨ r = 3 := by omega
 unfold plA
 rcases this with rfl | rfl | rfl | rfl
 ·exact ix0 _ _ _ _ w
 ·exact ix1 _ _ _ _ w
 ·exact ix2 _ _ _ _ w
 ·exact ix3 _ _ _ _ w
theorem Zg3 (x : Nat) (n : Nat) (seed key : Int) (w : World) (c0 : w.cell? ⟨x,0,none⟩ = some (.int .i64 (n : Int))) (c1 : w.cell? ⟨x,1,none⟩ = some (.int .i64 seed)) (hn : 0 < n) (hn2 : n ≤ 100000) :
  Calls Ydz 152 #[.pointer (some ⟨x,0,none⟩),.int .i64 key] w fun e w' => e = .returned (plA (Yf seed key) n) ∧ Zb No w w' := by
 have hx := World.block_lt_of_cell? w _ c0
 have hxn : w.heap.size ≠ x := Nat.ne_of_gt hx
 have M := Ydy (Zee seed key)
 have I := Ydy (fun r hr W => Zid (Yf seed key) (Zed seed key) r hr n hn hn2 W)
 unfold plA
 generalize Yf seed key = h at *
 have I0 := Ydy (I.out 0 (by omega))
 have I1 := Ydy (I.out 1 (by omega))
 have I2 := Ydy (I.out 2 (by omega))
 have I3 := Ydy (I.out 3 (by omega))
 clear I
 generalize Ye h 0 n = p0 at *
 generalize Ye h 1 n = p1 at *
 generalize Ye h 2 n = p2 at *
 generalize Ye h 3 n = p3 at *
 go_enter Tryz.func152,Tryz.ntmps152
 go_wp2_with fail
 refine (M.out _).mono ?_
 rintro e w' ⟨rfl,rfl⟩
 go_wp2
 refine wp_loop_rounds 5 ?_
 rw [rounds_succ]
 go_wp2_with fail
 refine (I0.out _).mono ?_
 rintro e w' ⟨rfl,rfl⟩
 go_wp2
 rw [rounds_succ]
 go_wp2_with fail
 refine (I1.out _).mono ?_
 rintro e w' ⟨rfl,rfl⟩
 go_wp2
 rw [rounds_succ]
 go_wp2_with fail
 refine (I2.out _).mono ?_
 rintro e w' ⟨rfl,rfl⟩
 go_wp2
 rw [rounds_succ]
 go_wp2_with fail
 refine (I3.out _).mono ?_
 rintro e w' ⟨rfl,rfl⟩
 go_wp2
 rw [rounds_succ]
 go_wp2
 refine bodyPost_ret (v:=.agg #[.int .i64 (p0 : Int),.int .i64 (p1 : Int),.int .i64 (p2 : Int),.int .i64 (p3 : Int)]) (by simp [results,Tryz.results152,go_sem]) rfl ⟨rfl,?_⟩
 (repeat (first | with_reducible exact Zb.refl _ _ | with_reducible refine Zb.drew ?_ | with_reducible refine Zb.drewN ?_ _ | with_reducible refine Zb.alloc ?_ _ | ((with_reducible refine Zb.setCell ?_ ?_ _); rotate_left; first | exact .inl rfl | exact .inr (Yd4 _) | exact .inl (.inl rfl) | exact .inl (.inr rfl) | exact .inl (.inr (.inl rfl)) | exact .inl (.inr (.inr rfl)) | (focus (right; first | (simp; done) | (simp; omega))))))
theorem Zgt (l : List Int) (h : j < l.length) : l.getD j 0 ∈ l := by
 rw [Yd0,Yd2 h]
 exact List.getElem_mem h
def Yb6 (w : World) (x : Nat) (rb : Nat → Nat) (n wd : Nat) (hk : Int) (rows : List (List Int)) (pl : Value) (r p : Nat) (g : Int) : Prop :=
 (∀ W,(Instr.index 250 pl (.int .i64 (r : Int))).run Ydz W = .ok (.int .i64 (p : Int)) W) ∧ w.cell? ⟨x,3 + r,none⟩ = some (Sl (rb r) n) ∧ p / 16 < n ∧ w.cell? ⟨rb r,p / 16,none⟩ = some (.int .u64 g) ∧ U64 g ∧ p < 100000 ∧ p = Ye hk r wd ∧ g = (rows.getD r []).getD (p / 16) 0
theorem Q9.at (h : Q9 own w x rb seed s) (hk : Int) (hr : r < 4) :
  ∃ p g,Yb6 w x rb (s.width / 16) s.width hk s.rows (plA hk s.width) r p g := by
 obtain ⟨n,hwd,hn1,hn2⟩ := h.wd
 have hi := Qo hk r (n:=s.width) (by omega)
 have hl := h.len r hr
 exact ⟨Ye hk r s.width,_,Ya6 hk s.width r hr,h.slice hr,by omega,Za (h.row r hr) (Za2 (by omega)),h.u64 r hr _ (Zgt _ (by omega)),by omega,rfl,rfl⟩
theorem Zm4 (h : Q9 own w x rb seed s) (key : Int) :
  Calls Ydz 215 #[.pointer (some ⟨x,0,none⟩),.int .i64 key] w fun e w' => e = .returned (.int .i64 (Zbn seed key s)) ∧ Zb No w w' := by
 obtain ⟨n,hwd,hn1,hn2⟩ := h.wd
 have P := Ydy (Zg3 x s.width seed key w (Za h.block rfl) (Za h.block rfl) (by omega) (by omega))
 have hx := Ze h.block
 unfold Zbn
 have hR := Ydy (fun w1 (ho : Zb No w w1) r hr => (h.kept (Yd3 w own) ho (fun _ _ _ _ h => h)).at (Yf seed key) (r:=r) hr)
 generalize plA (Yf seed key) s.width = pl at *
 generalize Yf seed key = hk at *
 generalize s.width / 16 = n at *
 generalize s.width = wd at *
 clear hwd h
 go_enter Tryz.func215,Tryz.ntmps215
 go_wp2_with fail
 refine (P.out).mono ?_
 rintro e w1 ⟨rfl,ho⟩
 have HR := Ydy (hR.out w1 ho)
 have HO := Ydy ho
 clear hR ho
 go_wp2
 go_loop [5,11] (fun t i => ∃ k : Nat,k ≤ 4 ∧ i = .int .i64 (k : Int) ∧ t = .int .i64 (Zm3 hk wd s.rows k)) (fun _ i => 4 - (intOf i).toNat)
 case atStart => exact ⟨0,by omega,rfl,rfl⟩
 case round =>
  obtain ⟨k,hk4,rfl,rfl⟩ := hrel
  by_cases hlt : k < 4
  ·obtain ⟨p,g,AK,c3,hd,cw,hu,hI2,ep,eg⟩ := HR.out k hlt
   have HC := Ydy (show Zm3 hk wd s.rows (k + 1) = if Zex g (p % 16) < Zm3 hk wd s.rows k then Zex g (p % 16) else Zm3 hk wd s.rows k by subst eg; subst ep; rfl)
   have G2 : Hid (∀ W,Calls Ydz 193 #[.int .u64 g,.int .i64 ((p : Int) % 16)] W fun e w' => e = .returned (.int .i64 (Zex g (p % 16))) ∧ W = w') := Ydy (fun W => by have := Zju g hu (p % 16) (by omega) W; rw [show ((p % 16 : Nat) : Int) = (p : Int) % 16 from by omega] at this; exact this)
   clear hu ep eg
   go_wp2_with fail
   refine (G2.out _).mono ?_
   rintro e w' ⟨rfl,rfl⟩
   go_wp2
   all_goals
    go_round
    case rel => exact ⟨k + 1,by omega,by go_num,by first | (rw [HC.out]; done) | (rw [HC.out,if_pos (by omega)]) | (rw [HC.out,if_neg (by omega)])⟩
    case measure => simp [intOf]; omega
  ·have hk : k = 4 := by omega
   subst hk
   go_wp2
   go_ret
   exact ⟨rfl,HO.out⟩
theorem Q9.samples (h : Q9 own w x rb seed s) (n : Int) (h0 : 0 ≤ n) (h1 : n ≤ 10 * (s.width : Int)) : Q9 own (w.setCell ⟨x,2,none⟩ (.int .i64 n)) x rb seed { s with samples := n } :=
 ⟨h.ox,h.orb,(Zj h.block 2 _).trans (by simp),fun r hr => Z7 (h.row r hr) (fun e => by have := h.orb r hr; rw [e,h.ox] at this; omega) _ _,h.len,h.n4,h.u64,h.wd,⟨h0,h1⟩⟩
theorem Sm.drewN (w : World) (n : Nat) : Sm w (w.drewN n) := ⟨rfl,rfl,rfl,rfl⟩
def Zzz (s : Sk) (k : Nat) (l : List Int) : Sk := { s with rows := s.rows.set k l }
theorem Zd6 {l : List (List Int)} (hk : k < l.length) (v : List Int) : (l.set k v).getD r [] = if r = k then v else l.getD r [] := by
 rw [Yd0,Yd0,List.getElem?_set]
 by_cases h : k = r
 ·subst h; simp [hk]
 ·rw [if_neg h,if_neg (fun e => h e.symm)]
theorem Zfn (h : ∀ v ∈ l,U64 v) {u : Int} (hu : U64 u) : ∀ v ∈ l.set j u,U64 v := fun v hv => by
 rcases List.mem_or_eq_of_mem_set hv with a | a
 ·exact h v a
 ·rw [a]; exact hu
theorem Q9.store (h : Q9 own w x rb seed s) (hk : k < 4) (j : Nat) (u : Int) (hu : U64 u) :
  Q9 own (w.setCell ⟨rb k,j,none⟩ (.int .u64 u)) x rb seed (Zzz s k ((s.rows.getD k []).set j u)) := by
 have hox := h.ox
 have horb := h.orb
 have hlen : k < s.rows.length := by rw [h.n4]; exact hk
 refine ⟨h.ox,h.orb,Z7 h.block (fun e => by have := horb k hk; rw [← e] at this; omega) _ _,fun r hr => ?_,fun r hr => ?_,by simp [Zzz,h.n4],fun r hr => ?_,h.wd,h.smp⟩
 ·show (_ : Option Obj) = some (.cells (Zfz ((s.rows.set k _).getD r [])) 241 (0,0))
  rw [Zd6 hlen]
  by_cases e : r = k
  ·subst e
   rw [if_pos rfl,← Zma]
   exact Zj (h.row r hr) _ _
  ·rw [if_neg e]
   exact Z7 (h.row r hr) (fun e2 => by have h1 := horb k hk; have h2 := horb r hr; rw [e2] at h2; omega) _ _
 ·show ((s.rows.set k _).getD r []).length = _
  rw [Zd6 hlen]
  by_cases e : r = k
  ·subst e; rw [if_pos rfl,Yd7]; exact h.len r hr
  ·rw [if_neg e]; exact h.len r hr
 ·show ∀ v ∈ (s.rows.set k _).getD r [],U64 v
  rw [Zd6 hlen]
  by_cases e : r = k
  ·subst e; rw [if_pos rfl]; exact Zfn (h.u64 r hr) hu
  ·rw [if_neg e]; exact h.u64 r hr
abbrev SkL (own : Nat → Nat) : Nat → Prop := Own own 24 29
def Zsq (own : Nat → Nat) (w : World) (x : Nat) (rb : Nat → Nat) (seed hk : Int) (s : Sk) (t i : Value) (wr : World) : Prop :=
 ∃ k : Nat,k ≤ 4 ∧ i = .int .i64 (k : Int) ∧ t = .bool (Jo hk s.width s.rows k).2 ∧ Q9 own wr x rb seed { s with rows := (Jo hk s.width s.rows k).1 } ∧ Zb (SkL own) w wr
def Zai (l : List Int) (j : Nat) : List Int := (l.take j).map Vt ++ l.drop j
theorem Zfk (l : List Int) : Zai l 0 = l := by simp [Zai]
theorem Zni (l : List Int) : Zai l l.length = l.map Vt := by simp [Zai]
theorem Znj (l : List Int) (j : Nat) (h : j < l.length) : (Zai l j).getD j 0 = l.getD j 0 := by
 unfold Zai
 rw [Yd0,List.getElem?_append_right (by simp; omega),List.getElem?_drop,Yd0]
 simp [Nat.min_eq_left (Nat.le_of_lt h)]
theorem Zk8 (l : List Int) (j : Nat) (h : j < l.length) : (Zai l j).set j (Vt (l.getD j 0)) = Zai l (j + 1) := by
 unfold Zai
 rw [List.set_append_right _ _ (by simp; omega),List.take_succ_eq_append_getElem h,List.map_append,Yef]
 congr 1
 rw [List.drop_eq_getElem_cons h]
 simp only [List.length_map,List.length_take,Nat.min_eq_left (Nat.le_of_lt h),Nat.sub_self,List.set_cons_zero,List.map_cons,List.map_nil,List.singleton_append]
 rw [Yd0,Yd2 h]
 rfl
def Zz4 (rows R : List (List Int)) (k j : Nat) : Prop := ∀ r,r < 4 → R.getD r [] = if r < k then (rows.getD r []).map Vt else if r = k then Zai (rows.getD r []) j else rows.getD r []
def Zj9 (s : Sk) (R : List (List Int)) : Sk := { s with rows := R }
def V9 (own : Nat → Nat) (w : World) (x : Nat) (rb : Nat → Nat) (seed : Int) (s : Sk) (k j : Nat) (wr : World) : Prop :=
 ∃ R,Zz4 s.rows R k j ∧ Q9 own wr x rb seed (Zj9 s R) ∧ Zb (SkL own) w wr
theorem V9.next (h : V9 own w x rb seed s k j wr) (hs : ∀ r,r < 4 → (s.rows.getD r []).length = s.width / 16) (hk : k < 4) (hj : j < s.width / 16) :
  V9 own w x rb seed s k (j + 1) (wr.setCell ⟨rb k,j,none⟩ (.int .u64 (Vt ((s.rows.getD k []).getD j 0)))) := by
 obtain ⟨R,h1,h2,h3⟩ := h
 have hst := h2.store hk j _ (Zum ((s.rows.getD k []).getD j 0))
 have hl := hs k hk
 have hR : R.length = 4 := h2.n4
 have hRk := h1 k hk
 rw [if_neg (by omega),if_pos rfl] at hRk
 refine ⟨R.set k ((R.getD k []).set j (Vt ((s.rows.getD k []).getD j 0))),fun r hr => ?_,hst,h3.setCell (p:=⟨rb k,j,none⟩) (.inl ⟨by have := h2.orb k hk; simp only; omega,by have := h2.orb k hk; simp only; omega⟩) _⟩
 rw [Zd6 (by omega)]
 by_cases e : r = k
 ·subst e
  rw [if_pos rfl,if_neg (by omega),if_pos rfl,hRk,Zk8 _ _ (by omega)]
 ·rw [if_neg e,h1 r hr]
  by_cases e2 : r < k
  ·rw [if_pos e2,if_pos e2]
  ·rw [if_neg e2,if_neg e2,if_neg e,if_neg e]
theorem V9.turn (h : V9 own w x rb seed s k (s.width / 16) wr) (hs : ∀ r,r < 4 → (s.rows.getD r []).length = s.width / 16) : V9 own w x rb seed s (k + 1) 0 wr := by
 obtain ⟨R,h1,h2,h3⟩ := h
 refine ⟨R,fun r hr => ?_,h2,h3⟩
 rw [h1 r hr]
 by_cases e : r = k
 ·subst e
  rw [if_neg (by omega),if_pos rfl,if_pos (by omega),← hs r hr,Zni]
 ·by_cases e2 : r < k
  ·rw [if_pos e2,if_pos (by omega)]
  ·rw [if_neg e2,if_neg e,if_neg (by omega)]
   by_cases e3 : r = k + 1
   ·rw [if_pos e3,Zfk]
   ·rw [if_neg e3]
theorem V9.word (h : V9 own w x rb seed s k j wr) (hs : ∀ r,r < 4 → (s.rows.getD r []).length = s.width / 16) (hu : ∀ r,r < 4 → ∀ v ∈ s.rows.getD r [],U64 v) (hk : k < 4) (hj : j < s.width / 16) :
  wr.cell? ⟨rb k,j,none⟩ = some (.int .u64 ((s.rows.getD k []).getD j 0)) ∧ wr.frozen? ⟨rb k,j,none⟩ = false ∧ U64 ((s.rows.getD k []).getD j 0) := by
 obtain ⟨R,h1,h2,h3⟩ := h
 have hl := hs k hk
 have hRk := h1 k hk
 rw [if_neg (by omega),if_pos rfl] at hRk
 have hRl : (R.getD k []).length = s.width / 16 := h2.len k hk
 have := Za2 (l:=R.getD k []) (j:=j) (by omega)
 rw [hRk,Znj _ _ (by omega),← hRk] at this
 exact ⟨Za (h2.row k hk) this,Zc (h2.row k hk) _,hu k hk _ (Zgt _ (by omega))⟩
def slA (rb : Nat → Nat) (n : Nat) : Value := .agg #[Sl (rb 0) n,Sl (rb 1) n,Sl (rb 2) n,Sl (rb 3) n]
theorem iy0 (p0 p1 p2 p3 : Value) (w : World) : (Instr.index 197 (.agg #[p0,p1,p2,p3]) (.int .i64 0)).run Ydz w = .ok p0 w := by kernel_rfl
theorem iy1 (p0 p1 p2 p3 : Value) (w : World) : (Instr.index 197 (.agg #[p0,p1,p2,p3]) (.int .i64 1)).run Ydz w = .ok p1 w := by kernel_rfl
theorem iy2 (p0 p1 p2 p3 : Value) (w : World) : (Instr.index 197 (.agg #[p0,p1,p2,p3]) (.int .i64 2)).run Ydz w = .ok p2 w := by kernel_rfl
theorem iy3 (p0 p1 p2 p3 : Value) (w : World) : (Instr.index 197 (.agg #[p0,p1,p2,p3]) (.int .i64 3)).run Ydz w = .ok p3 w := by kernel_rfl
theorem Ybh (rb : Nat → Nat) (n r : Nat) (hr : r < 4) (w : World) : (Instr.index 197 (slA rb n) (.int .i64 (r : Int))).run Ydz w = .ok (Sl (rb r) n) w := by
 have : r = 0 ∨ r = 1 ∨ r = 2 ∨ r = 3 := by omega
 unfold slA
 rcases this with rfl | rfl | rfl | rfl
 ·exact iy0 _ _ _ _ w
 ·exact iy1 _ _ _ _ w
 ·exact iy2 _ _ _ _ w
 ·exact iy3 _ _ _ _ w
theorem V9.done (h : V9 own w x rb seed s 4 0 wr) (h4 : s.rows.length = 4) : Q9 own wr x rb seed (Zj9 s (s.rows.map (fun r => r.map Vt))) ∧ Zb (SkL own) w wr := by
 obtain ⟨R,h1,h2,h3⟩ := h
 have hR : R.length = 4 := h2.n4
 have e : R = s.rows.map (fun r => r.map Vt) := by
  apply List.ext_getElem (by simp [hR,h4])
  intro r hr hr2
  have := h1 r (by omega)
  rw [if_pos (by omega)] at this
  rw [Yd0,Yd0,Yd2 hr,Yd2 (by omega)] at this
  simpa using this
 rw [← e]
 exact ⟨h2,h3⟩
theorem Zun (h : Q9 own w x rb seed s) :
  Calls Ydz 154 #[.pointer (some ⟨x,0,none⟩)] w fun e w' => e = .returned (.tuple #[]) ∧ Q9 own w' x rb seed { s with rows := s.rows.map (fun r => r.map Vt),samples := s.samples / 2 } ∧ Zb (SkL own) w w' := by
 have hx := Ze h.block
 have c3 := Za (j:=3) h.block rfl
 have c4 := Za (j:=4) h.block rfl
 have c5 := Za (j:=5) h.block rfl
 have c6 := Za (j:=6) h.block rfl
 have hA := Ydy (Ybh rb (s.width / 16))
 have hn : s.width / 16 ≤ 64 := by obtain ⟨n,a,b,c⟩ := h.wd; omega
 have hww : s.width ≤ 1024 := by obtain ⟨n,a,b,c⟩ := h.wd; omega
 have HS := Ydy h.len
 have HU := Ydy h.u64
 have H4 := Ydy h.n4
 have H0 : Hid (V9 own w x rb seed s 0 0 w) := Ydy ⟨s.rows,fun r hr => by rw [if_neg (by omega)]; split <;> simp [Zfk],h,Zb.refl _ _⟩
 clear h
 go_enter Tryz.func154,Tryz.ntmps154
 go_wp2
 have hsl : Value.agg #[Sl (rb 0) (s.width / 16),Sl (rb 1) (s.width / 16),Sl (rb 2) (s.width / 16),Sl (rb 3) (s.width / 16)] = slA rb (s.width / 16) := rfl
 rw [hsl]
 clear hsl c3 c4 c5 c6
 generalize slA rb (s.width / 16) = ar at *
 generalize hn' : s.width / 16 = n at *
 have HSW : Hid (∀ r,r < 4 → (s.rows.getD r []).length = s.width / 16) := Ydy (fun r hr => (HS.out r hr).trans hn'.symm)
 have HN := Ydy hn'
 clear hn'
 go_loopw [10] (fun i wr => ∃ k : Nat,k ≤ 4 ∧ i = .int .i64 (k : Int) ∧ V9 own w x rb seed s k 0 wr) (fun i _ => 4 - (intOf i).toNat)
 case atStart => exact ⟨0,by omega,rfl,H0.out⟩
 case round =>
  obtain ⟨k,hk4,rfl,hrk⟩ := hrel
  have HRK := Ydy hrk
  clear hrk
  by_cases hlt : k < 4
  ·have AK := hA.out k hlt
   have hkb : decide ((k : Int) < 4) = true := by simp; omega
   go_wp2
   obtain ⟨wo,hwo⟩ : ∃ wo : World,wo = wr := ⟨_,rfl⟩
   subst hwo
   go_loopw [15] (fun i wr => ∃ j : Nat,j ≤ n ∧ i = .int .i64 (j : Int) ∧ V9 own w x rb seed s k j wr) (fun i _ => n - (intOf i).toNat)
   case atStart => exact ⟨0,by omega,rfl,HRK.out⟩
   case round =>
    obtain ⟨j,hjn,rfl,hrj⟩ := hrel
    by_cases hlt2 : j < n
    ·obtain ⟨cw,fw,hu⟩ := hrj.word HSW.out HU.out hlt (by rw [HN.out]; exact hlt2)
     have HNX := Ydy (hrj.next HSW.out hlt (by rw [HN.out]; exact hlt2))
     have V := Ydy (Zq3 ((s.rows.getD k []).getD j 0) hu)
     clear hrj hu
     generalize (s.rows.getD k []).getD j 0 = g at *
     go_wp2_with fail
     refine (V.out _).mono ?_
     rintro e w' ⟨rfl,rfl⟩
     go_wp2
     go_roundw
     case rel => exact ⟨j + 1,by omega,by go_num,HNX.out⟩
     case measure => simp [intOf]; omega
    ·have hj : j = n := by omega
     subst hj
     have HRJ := Ydy (V9.turn (s:=s) (by rw [HN.out]; exact hrj) HSW.out)
     clear hrj
     go_wp2
     go_roundw
     case rel => exact ⟨k + 1,by omega,by go_num,HRJ.out⟩
     case measure => simp [intOf]; omega
  ·have hk : k = 4 := by omega
   subst hk
   obtain ⟨hd,ho⟩ := HRK.out.done H4.out
   have b2 := Za (j:=2) hd.block rfl
   have g2 := Zc hd.block 2
   have hsm := hd.smp
   simp only [Zj9] at b2 hsm
   obtain ⟨hs0,hs1⟩ := hsm
   have HD := Ydy hd
   have HO := Ydy ho
   clear hd ho
   go_wp2
   go_end0
   refine ⟨rfl,?_,HO.out.setCell (p:=⟨x,2,none⟩) (.inl ⟨by have := HD.out.ox; simp only; omega,by have := HD.out.ox; simp only; omega⟩) _⟩
   have hd := HD.out
   exact ⟨hd.ox,hd.orb,(by have := Zj hd.block 2 (.int .i64 (s.samples / 2)); simpa [Zj9] using this),fun r hr => Z7 (hd.row r hr) (fun e => by have := hd.orb r hr; rw [e,hd.ox] at this; omega) _ _,hd.len,hd.n4,hd.u64,hd.wd,⟨by simp only; omega,by simp only; omega⟩⟩
def Ybt (own : Nat → Nat) (w : World) (x : Nat) (rb : Nat → Nat) (seed key : Int) (s : Sk) (e : Ending) (w' : World) : Prop :=
 ∃ more,e = .returned (.tuple #[.bool more,.bool (K7 seed key s).2]) ∧ Q9 own w' x rb seed (K7 seed key s).1 ∧ Zb (SkL own) w w'
theorem Zsq.next {hk : Int} {p : Nat} {g : Int} (h1 : Q9 own wr x rb seed { s with rows := (Jo hk s.width s.rows k).1 }) (h2 : Zb (SkL own) w wr) (hk4 : k < 4)
  (ep : p = Ye hk k s.width) (eg : g = ((Jo hk s.width s.rows k).1.getD k []).getD (p / 16) 0) (hg : Zex g (p % 16) ≠ 15) :
  Q9 own (wr.setCell ⟨rb k,p / 16,none⟩ (.int .u64 (Zjv g (p % 16)))) x rb seed { s with rows := (Jo hk s.width s.rows (k + 1)).1 } ∧ Zb (SkL own) w (wr.setCell ⟨rb k,p / 16,none⟩ (.int .u64 (Zjv g (p % 16)))) ∧ (Jo hk s.width s.rows (k + 1)).2 = true := by
 have hst := h1.store hk4 (p / 16) _ (Zxy g (p % 16))
 have e : Jo hk s.width s.rows (k + 1) = ((Jo hk s.width s.rows k).1.set k (((Jo hk s.width s.rows k).1.getD k []).set (p / 16) (Zjv g (p % 16))),(Jo hk s.width s.rows k).2 || true) := by
  subst ep
  simp only [Jo,Zob]
  rw [← eg,if_neg hg]
 rw [e]
 exact ⟨hst,h2.setCell (p:=⟨rb k,p / 16,none⟩) (.inl ⟨by have := h1.orb k hk4; simp only; omega,by have := h1.orb k hk4; simp only; omega⟩) _,by simp⟩
theorem Zsq.stay {hk : Int} {p : Nat} {g : Int} (h1 : Q9 own wr x rb seed { s with rows := (Jo hk s.width s.rows k).1 }) (hk4 : k < 4)
  (ep : p = Ye hk k s.width) (eg : g = ((Jo hk s.width s.rows k).1.getD k []).getD (p / 16) 0) (hg : Zex g (p % 16) = 15) :
  Jo hk s.width s.rows (k + 1) = Jo hk s.width s.rows k ∧ Q9 own wr x rb seed { s with rows := (Jo hk s.width s.rows (k + 1)).1 } := by
 have e : Jo hk s.width s.rows (k + 1) = ((Jo hk s.width s.rows k).1.set k ((Jo hk s.width s.rows k).1.getD k []),(Jo hk s.width s.rows k).2 || false) := by
  subst ep
  simp only [Jo,Zob]
  rw [← eg,if_pos hg]
 have hl : k < (Jo hk s.width s.rows k).1.length := by have := h1.n4; simp only at this; omega
 have e2 : (Jo hk s.width s.rows k).1.set k ((Jo hk s.width s.rows k).1.getD k []) = (Jo hk s.width s.rows k).1 := by
  rw [Yd0,Yd2 hl]
  exact List.set_getElem_self hl
 have e3 : Jo hk s.width s.rows (k + 1) = Jo hk s.width s.rows k := by rw [e,e2,Bool.or_false]
 rw [e3]
 exact ⟨rfl,h1⟩
theorem Zxb (h : Q9 own w x rb seed s) (hlt : s.samples < 10 * (s.width : Int)) (key : Int) :
  Calls Ydz 102 #[.pointer (some ⟨x,0,none⟩),.int .i64 key] w (Ybt own w x rb seed key s) := by
 obtain ⟨n,hwd,hn1,hn2⟩ := h.wd
 have P := Ydy (Zg3 x s.width seed key w (Za h.block rfl) (Za h.block rfl) (by omega) (by omega))
 have hx := Ze h.block
 have HQ : Hid (∀ e w',(∃ more,e = .returned (.tuple #[.bool more,.bool (K7 seed key s).2]) ∧ Q9 own w' x rb seed (K7 seed key s).1 ∧ Zb (SkL own) w w') → Ybt own w x rb seed key s e w') := Ydy (fun _ _ h => h)
 have HS : Hid (K7 seed key s = (let p := Jo (Yf seed key) s.width s.rows 4; if p.2 then if 10 * (s.width : Int) ≤ s.samples + 1 then ({ s with rows := p.1.map (fun r => r.map Vt),samples := (s.samples + 1) / 2 },true) else ({ s with rows := p.1,samples := s.samples + 1 },false) else ({ s with rows := p.1 },false))) := Ydy rfl
 generalize K7 seed key s = res at *
 generalize hpl : plA (Yf seed key) s.width = pl at *
 generalize Yf seed key = hk at *
 have HPL := Ydy hpl
 have H := Ydy h
 have hs0 := h.smp.1
 have hs1 := h.smp.2
 have hww : s.width ≤ 1024 := by omega
 clear hwd h hpl
 go_enter Tryz.func102,Tryz.ntmps102
 go_wp2_with fail
 refine (P.out).mono ?_
 rintro e w1 ⟨rfl,ho⟩
 have H1 := Ydy (H.out.kept (Yd3 w own) ho (fun _ _ _ _ h => h))
 have HO := Ydy ho
 clear ho
 go_wp2
 generalize hwn : s.width / 16 = wn at *
 go_loopw [4,13] (fun t i wr => Zsq own w x rb seed hk s t i wr) (fun _ i _ => 4 - (intOf i).toNat)
 case atStart => exact ⟨0,by omega,rfl,rfl,H1.out,HO.out.no⟩
 case round =>
  obtain ⟨k,hk4,rfl,rfl,hs,ho⟩ := hrel
  by_cases hlt : k < 4
  ·have hkb : decide ((k : Int) < 4) = true := by simp; omega
   obtain ⟨p,g,AK,c3,hd,cw,hu,hI2,ep,eg⟩ := hs.at hk hlt
   simp only [HPL.out] at AK c3 hd ep eg
   have fr := Zc (hs.row k hlt) (p / 16)
   have HX := Ydy hs
   have HOX := Ydy ho
   generalize hmo : (Jo hk s.width s.rows k).2 = mo at *
   have HM := Ydy hmo
   clear hs ho hmo
   by_cases hg : Zex g (p % 16) = 15
   ·have G := Ydy (fun W => (by have := Zur g hu (p % 16) (by omega) hg W; rw [show ((p % 16 : Nat) : Int) = (p : Int) % 16 from by omega] at this; exact this : Calls Ydz 153 #[.int .u64 g,.int .i64 ((p : Int) % 16)] W fun e w' => e = .returned (.tuple #[.int .u64 g,.bool false]) ∧ W = w'))
    have N := Ydy (Zsq.stay HX.out hlt ep eg hg)
    clear hu ep eg hg
    cases mo
    all_goals
     go_wp2_with fail
     refine (G.out _).mono ?_
     rintro e w' ⟨rfl,rfl⟩
     go_wp2
     go_roundw
     case rel => exact ⟨k + 1,by omega,by go_num,by rw [N.out.1,HM.out],N.out.2,HOX.out⟩
     case measure => simp [intOf]; omega
   ·have G := Ydy (fun W => (by have := Yau g hu (p % 16) (by omega) hg W; rw [show ((p % 16 : Nat) : Int) = (p : Int) % 16 from by omega] at this; exact this : Calls Ydz 153 #[.int .u64 g,.int .i64 ((p : Int) % 16)] W fun e w' => e = .returned (.tuple #[.int .u64 (Zjv g (p % 16)),.bool true]) ∧ W = w'))
    have N := Ydy (Zsq.next HX.out HOX.out hlt ep eg hg)
    clear hu ep eg hg
    generalize Zjv g (p % 16) = g2 at *
    cases mo
    all_goals
     go_wp2_with fail
     refine (G.out _).mono ?_
     rintro e w' ⟨rfl,rfl⟩
     go_wp2
     go_roundw
     case rel => exact ⟨k + 1,by omega,by go_num,by rw [N.out.2.2],N.out.1,N.out.2.1⟩
     case measure => simp [intOf]; omega
  ·have hk : k = 4 := by omega
   subst hk
   have HX := Ydy hs
   have HOX := Ydy ho
   clear hs ho
   have hres := HS.out
   clear HS
   generalize Jo hk s.width s.rows 4 = pr at *
   obtain ⟨rows,mo⟩ := pr
   simp only at hres
   cases mo
   ·have HR := Ydy hres
    clear hres
    go_wp2
    go_ret2
    refine HQ.out _ _ ⟨false,?_,?_,HOX.out⟩
    ·rw [HR.out]; rfl
    ·rw [HR.out]; exact HX.out
   ·have b0 := Za (j:=0) HX.out.block rfl
    have b2 := Za (j:=2) HX.out.block rfl
    have g2 := Zc HX.out.block 2
    simp only at b0 b2
    by_cases hag : 10 * (s.width : Int) ≤ s.samples + 1
    ·have HR : Hid (res = ({ s with rows := rows.map (fun r => r.map Vt),samples := (s.samples + 1) / 2 },true)) := Ydy (by rw [hres]; simp [hag])
     have hS : Hid (Q9 own (wr.setCell ⟨x,2,none⟩ (.int .i64 (s.samples + 1))) x rb seed { s with rows := rows,samples := s.samples + 1 }) := Ydy (HX.out.samples (s.samples + 1) (by omega) (by simp only; omega))
     have V := Ydy (fun W (hs : Sm (wr.setCell ⟨x,2,none⟩ (.int .i64 (s.samples + 1))) W) => Zun (hS.out.kept (Yd3 _ _) hs.only (fun _ _ _ _ h => h) : Q9 own W x rb seed _))
     have hb : decide (10 * (s.width : Int) ≤ s.samples + 1) = true := by simp [hag]
     clear hres
     go_wp2
     go_quiet (fail)
     go_wp2_with fail
     refine (V.out _ (Sm.drewN _ _)).mono ?_
     rintro e w2 ⟨rfl,hs2,ho2⟩
     have HS2 := Ydy hs2
     have HO2 := Ydy ho2
     clear hs2 ho2
     go_wp2
     go_ret2
     have hxo := H.out.ox
     refine HQ.out _ _ ⟨true,?_,?_,?_⟩
     ·rw [HR.out]; rfl
     ·rw [HR.out]; exact HS2.out
     ·exact (HOX.out.setCell (p:=⟨x,2,none⟩) (.inl ⟨by simp only; omega,by simp only; omega⟩) _).trans ((Zb.refl _ _).drewN _ |>.trans HO2.out)
    ·have HR : Hid (res = ({ s with rows := rows,samples := s.samples + 1 },false)) := Ydy (by rw [hres]; simp [hag])
     have hS : Hid (Q9 own (wr.setCell ⟨x,2,none⟩ (.int .i64 (s.samples + 1))) x rb seed { s with rows := rows,samples := s.samples + 1 }) := Ydy (HX.out.samples (s.samples + 1) (by omega) (by simp only; omega))
     have V := Ydy (fun W (hs : Sm (wr.setCell ⟨x,2,none⟩ (.int .i64 (s.samples + 1))) W) => (hS.out.kept (Yd3 _ _) hs.only (fun _ _ _ _ h => h) : Q9 own W x rb seed _))
     have hb : decide (10 * (s.width : Int) ≤ s.samples + 1) = false := by simp; omega
     clear hres
     go_wp2
     go_quiet (fail)
     go_wp2
     go_ret2
     have hxo := H.out.ox
     refine HQ.out _ _ ⟨true,?_,?_,?_⟩
     ·rw [HR.out]; rfl
     ·rw [HR.out]; exact V.out _ (Sm.drewN _ _)
     ·exact (HOX.out.setCell (p:=⟨x,2,none⟩) (.inl ⟨by simp only; omega,by simp only; omega⟩) _).drewN _
end
theorem Zgr {xs : Array Value} {a b : Value} {r : Bool} (hn : (f.name == "_") = false) (ha : (part f.type xs f.offset).run P w = .ok a w) (hb : (part f.type ys f.offset).run P w = .ok b w) (he : (Op.equalIn d f.type a b).run P w = .ok r w) : (Op.eqFields d xs ys [f]).run P w = .ok r w := by
 have hn' : f.name ≠ "_" := by simpa using hn
 simp only [Op.eqFields,if_pos hn',Sem.run_bind,ha,hb,he,Result.andThen_ok]
 cases r <;> simp
theorem Zb8 {xs : Array Value} {fs : List Field} {a b : Value} {r s : Bool} (hn : (f.name == "_") = false) (ha : (part f.type xs f.offset).run P w = .ok a w) (hb : (part f.type ys f.offset).run P w = .ok b w) (he : (Op.equalIn d f.type a b).run P w = .ok r w) (hr : (Op.eqFields d xs ys fs).run P w = .ok s w) : (Op.eqFields d xs ys (f :: fs)).run P w = .ok (r && s) w := by
 have hn' : f.name ≠ "_" := by simpa using hn
 rw [Op.eqFields]
 simp only [if_pos hn',Sem.run_bind,ha,hb,he,Result.andThen_ok]
 cases r
 ·simp
 ·simpa using hr
theorem Zm7 {xs : Array Value} {r : Bool} {fs : Array Field} (hu : P.underlying t = some (.struct fs)) (hp : P.stoodInHeld t = false) (h : (Op.eqFields d xs ys fs.toList).run P w = .ok r w) : (Op.equalIn (d + 1) t (.agg xs) (.agg ys)).run P w = .ok r w := by
 have hf : P.fieldsOf t = fs := by simp [Program.fieldsOf,hu]
 rw [run_equalIn_struct (P:=P) w d t xs ys (by rw [hf]; exact hu) hp,hf]
 exact h
theorem Zgq {k : IntKind} (ht : Ydz.underlying t = some (.int k)) (a b : Int) (w : World) : (Op.equalIn (d + 1) t (.int k a) (.int k b)).run Ydz w = .ok (a == b) w := by
 simp [Op.equalIn,run_underlying ht]
theorem Zjr (ht : Ydz.underlying t = some .bool) (a b : Bool) (w : World) : (Op.equalIn (d + 1) t (.bool a) (.bool b)).run Ydz w = .ok (a == b) w := by
 simp [Op.equalIn,run_underlying ht]
theorem Zgp (w : World) (a b : Int) (p q : Bool) : (binOp .eql 290 (.agg #[.int .i64 a,.bool p]) (.agg #[.int .i64 b,.bool q])).run Ydz w = .ok (.bool (a == b && p == q)) w := by
 have h : (Op.equalIn 10000 290 (.agg #[.int .i64 a,.bool p]) (.agg #[.int .i64 b,.bool q])).run Ydz w = .ok (a == b && p == q) w := by
  refine Zm7 (d:=9999) Yee (by kernel_rfl) ?_
  refine Zb8 (a:=.int .i64 a) (b:=.int .i64 b) (by decide) (by kernel_rfl) (by kernel_rfl) (Zgq Tryz.underlying3 _ _ _) ?_
  exact Zgr (a:=.bool p) (b:=.bool q) (by decide) (by kernel_rfl) (by kernel_rfl) (Zjr Tryz.underlying4 _ _ _)
 simp only [binOp]
 simp [Op.equal,Op.maxDepth,h]
theorem Zu6 (w : World) (a b : Int) (p q : Bool) : (binOp .neq 290 (.agg #[.int .i64 a,.bool p]) (.agg #[.int .i64 b,.bool q])).run Ydz w = .ok (.bool (!(a == b && p == q))) w := by
 have h : (Op.equalIn 10000 290 (.agg #[.int .i64 a,.bool p]) (.agg #[.int .i64 b,.bool q])).run Ydz w = .ok (a == b && p == q) w := by
  refine Zm7 (d:=9999) Yee (by kernel_rfl) ?_
  refine Zb8 (a:=.int .i64 a) (b:=.int .i64 b) (by decide) (by kernel_rfl) (by kernel_rfl) (Zgq Tryz.underlying3 _ _ _) ?_
  exact Zgr (a:=.bool p) (b:=.bool q) (by decide) (by kernel_rfl) (by kernel_rfl) (Zjr Tryz.underlying4 _ _ _)
 simp only [binOp]
 simp [Op.equal,Op.maxDepth,h]
def Row (own : Nat → Nat) (lab : Nat) (w : World) (e size : Nat) (v : Value) (n : Nat) (xs : List Value) : Prop := w.ownsRow 0 e size v n xs ∧ ∀ g,v.ownBlock = some g → own g = lab
theorem Row.nil (own : Nat → Nat) (lab : Nat) (w : World) (e size : Nat) : Row own lab w e size (.slice none 0 0) 0 [] := ⟨⟨by simp,.inl ⟨rfl,rfl⟩⟩,fun g h => by simp [Value.ownBlock] at h⟩
theorem Row.lt {lab : Nat} (h : Row own lab w e size v n xs) {g : Nat} (hg : v.ownBlock = some g) : g < w.heap.size := by
 rcases h.1.2 with ⟨rfl,_⟩ | ⟨g',cap,cur,rfl,_,hb,_⟩
 ·simp [Value.ownBlock] at hg
 ·simp only [Value.ownBlock,Option.some.injEq] at hg
  subst hg
  exact Ze hb
theorem Row.kept {lab : Nat} (h : Row own lab w e size v n xs) (he : Ext w own own') (ho : Zb S w w') (hS : ∀ b,b < w.heap.size → own b = lab → ¬ S b) : Row own' lab w' e size v n xs := by
 refine ⟨⟨h.1.1,?_⟩,fun g hg => (he g (h.lt hg)).trans (h.2 g hg)⟩
 rcases h.1.2 with hn | ⟨g,cap,cur,hv,h0,hb,hr⟩
 ·exact .inl hn
 ·exact .inr ⟨g,cap,cur,hv,h0,ho.kept hb (hS g (Ze hb) (h.2 g (by rw [hv]; rfl))),hr⟩
theorem Row.sm {lab : Nat} (h : Row own lab w e size v n xs) (hs : Sm w w') : Row own lab w' e size v n xs := h.kept (S:=fun _ => False) (fun _ _ => rfl) hs.only (fun _ _ _ h => h)
theorem Row.form {lab : Nat} (h : Row own lab w e size v n xs) :
  (v = .slice none 0 0 ∧ n = 0 ∧ xs = []) ∨ ∃ g cap,v = .slice (some ⟨g,0,none⟩) n cap ∧ own g = lab ∧ g < w.heap.size ∧ n ≤ cap ∧ (∀ j,w.frozen? ⟨g,j,none⟩ = false) ∧ xs.length = n * size ∧ ∀ j u,xs[j]? = some u → w.cell? ⟨g,j,none⟩ = some u := by
 rcases h.1.2 with ⟨hv,hn⟩ | ⟨g,cap,cur,hv,h0,hb,h1,h2,h3,h4⟩
 ·refine .inl ⟨hv,hn,?_⟩
  have := h.1.1
  rw [hn,Nat.zero_mul] at this
  exact Yd6.1 this
 ·refine .inr ⟨g,cap,hv,h.2 g (by rw [hv]; rfl),Ze hb,h1,fun j => Zc hb j,h.1.1,fun j u hu => ?_⟩
  rw [Zo3 hb]
  rw [← h4,List.getElem?_take] at hu
  split at hu
  ·simpa using hu
  ·cases hu
structure ElT (t e size bytes : Nat) : Prop where
 ht : Ydz.underlying t = some (.slice e)
 hi : ∃ i z,Ydz.info? e = some i ∧ i.zero = some z ∧ i.size = size ∧ i.bytes = bytes ∧ z.cells.size = size
 pos : 0 < size
 small : bytes ≤ 100
theorem ElT.mk' {t bytes : Nat} {z : Value} (ht : Ydz.underlying t = some (.slice e)) (h : (Ydz.info? e).map (fun i => (i.zero,i.size,i.bytes)) = some (some z,size,bytes)) (hz : z.cells.size = size) (h0 : 0 < size) (h1 : bytes ≤ 100) : ElT t e size bytes := by
 obtain ⟨i,hi,h2,h3,h4⟩ := info_parts h
 exact ⟨ht,⟨i,z,hi,h2,h3,h4,hz⟩,h0,h1⟩
theorem Xx (hgd : o.guard = none) (s x : Operand) (t : TypeId)
  (ho : o.op = .call { callee := .builtin .append,args := #[s,x],argTypes := #[t,t] }) {e size bytes : Nat} (E : ElT t e size bytes)
  {own : Nat → Nat} {lab : Nat} {v : Value} {n : Nat} {xs : List Value} (hs : a.eval s = v) (hR : Row own lab w e size v n xs) {B c : Nat} {cs : Array Value} {tb : TypeId} {fr : Nat × Nat}
  (hx : a.eval x = .slice (some ⟨B,0,none⟩) 1 c) (hB : w.heap[B]? = some (.cells cs tb fr)) (hcs : cs.size = size) (h1 : ∀ u ∈ cs.toList,u.oneCell' = true) (hn : n ≤ 1000000)
  (hK : ∀ g cap w',Row (ext own w.heap.size lab) lab w' e size (.slice (some ⟨g,0,none⟩) (n + 1) cap) (n + 1) (xs ++ cs.toList) → w.grownBy w' v.ownBlock → (v.ownBlock = some g ∨ g = w.heap.size) → w.heap.size ≤ w'.heap.size → wpList Ydz ops Q rest (a.put o.dst (.slice (some ⟨g,0,none⟩) (n + 1) cap)) w') :
  wpList Ydz ops Q (o :: rest) a w := by
 obtain ⟨i,z,hi,hz0,hz1,hz2,hz3⟩ := E.hi
 have hby : (n + 1) * bytes ≤ 1000001 * 100 := Nat.mul_le_mul (by omega) E.small
 refine wpList_append_lies w hgd s x t ho 0 e i z size bytes E.ht hi hz0 hz1 hz2 hz3 E.pos v n xs hs hR.1 ⟨B,0,none⟩ 1 c cs.toList hx (by rw [Nat.one_mul]; simpa using hcs) (World.news_of_block hB) h1 (by omega) (by unfold maxLen; omega) (by omega) (Nat.zero_le _) w.heap.size rfl ?_
 intro g cap w' h2 h3 h4 h5
 refine hK g cap w' ⟨h2,fun g' hg' => ?_⟩ h3 h4 h3.size
 simp only [Value.ownBlock,Option.some.injEq] at hg'
 subst hg'
 rcases h4 with h4 | h4
 ·rw [Zz (hR.lt h4)]; exact hR.2 _ h4
 ·exact Jz (by omega)
theorem Jx {K : Act → World → Prop} {G : Prop} (hgd : o.guard = none) (s x : Operand) (t : TypeId)
  (ho : o.op = .call { callee := .builtin .append,args := #[s,x],argTypes := #[t,t] }) {e size bytes : Nat} (E : ElT t e size bytes)
  {own : Nat → Nat} {lab : Nat} {v : Value} {n : Nat} {xs : List Value} (hs : a.eval s = v) (hR : Row own lab w e size v n xs) {B c : Nat} {cs : Array Value} {tb : TypeId} {fr : Nat × Nat}
  (hx : a.eval x = .slice (some ⟨B,0,none⟩) 1 c) (hB : w.heap[B]? = some (.cells cs tb fr)) (hcs : cs.size = size) (h1 : ∀ u ∈ cs.toList,u.oneCell' = true) (hn : n ≤ 1000000) (H : Nat) (hH : w.heap.size = H)
  (hK : ∀ g cap w',Row (ext own H lab) lab w' e size (.slice (some ⟨g,0,none⟩) (n + 1) cap) (n + 1) (xs ++ cs.toList) → w.grownBy w' v.ownBlock → (v.ownBlock = some g ∨ g = H) → H ≤ w'.heap.size → K (a.put o.dst (.slice (some ⟨g,0,none⟩) (n + 1) cap)) w') :
  if Region.wanted o (yielded ops a.tmps) = true then Oper.wp Ydz o a w K Q else G := by
 obtain ⟨i,z,hi,hz0,hz1,hz2,hz3⟩ := E.hi
 have hby : (n + 1) * bytes ≤ 1000001 * 100 := Nat.mul_le_mul (by omega) E.small
 refine step_append_lies w hgd s x t ho 0 e i z size bytes E.ht hi hz0 hz1 hz2 hz3 E.pos v n xs hs hR.1 ⟨B,0,none⟩ 1 c cs.toList hx (by rw [Nat.one_mul]; simpa using hcs) (World.news_of_block hB) h1 (by omega) (by unfold maxLen; omega) (by omega) (Nat.zero_le _) H hH ?_
 intro g cap w' h2 h3 h4 h5
 refine hK g cap w' ⟨h2,fun g' hg' => ?_⟩ h3 h4 (by have := h3.size; omega)
 simp only [Value.ownBlock,Option.some.injEq] at hg'
 subst hg'
 rcases h4 with h4 | h4
 ·rw [Zz (by have := hR.lt h4; omega)]; exact hR.2 _ h4
 ·exact Jz (by omega)
theorem Yah : ElT 135 183 5 40 := ElT.mk' (z:=.agg #[.int .i64 0,.int .i64 0,.int .i64 0,.int .i64 0,.int .i64 0]) Tryz.underlying135 (by kernel_rfl) rfl (by decide) (by decide)
theorem Zjp : ElT 35 93 4 32 := ElT.mk' (z:=.agg #[.int .i64 0,.int .i64 0,.int .i64 0,.int .i64 0]) Tryz.underlying35 (by kernel_rfl) rfl (by decide) (by decide)
theorem Zgn : ElT 40 98 8 64 := ElT.mk' (z:=.agg #[.int .i64 0,.int .i64 0,.int .i64 0,.int .i64 0,.int .i64 0,.int .i64 0,.bool false,.int .i64 0]) Tryz.underlying40 (by kernel_rfl) rfl (by decide) (by decide)
theorem Zd1 : ElT 25 3 1 8 := ElT.mk' (z:=.int .i64 0) Tryz.underlying25 (by kernel_rfl) rfl (by decide) (by decide)
theorem Yag : ElT 76 4 1 1 := ElT.mk' (z:=.bool false) Tryz.underlying76 (by kernel_rfl) rfl (by decide) (by decide)
theorem Zt5 : ElT 101 105 5 40 := ElT.mk' (z:=.agg #[.int .i64 0,.int .i64 0,.int .i64 0,.int .i64 0,.int .i64 0]) Tryz.underlying101 (by kernel_rfl) rfl (by decide) (by decide)
theorem Zky : ElT 38 72 4 32 := ElT.mk' (z:=.agg #[.int .i64 0,.int .i64 0,.int .i64 0,.bool false]) Tryz.underlying38 (by kernel_rfl) rfl (by decide) (by decide)
theorem Zt6 : ElT 66 70 1 8 := ElT.mk' (z:=.pointer none) Tryz.underlying66 (by kernel_rfl) rfl (by decide) (by decide)
theorem Zxq : ElT 119 123 1 8 := ElT.mk' (z:=.pointer none) Tryz.underlying119 (by kernel_rfl) rfl (by decide) (by decide)
theorem Yai : ElT 151 154 1 8 := ElT.mk' (z:=.pointer none) Tryz.underlying151 (by kernel_rfl) rfl (by decide) (by decide)
theorem Zo4 : ElT 112 115 4 32 := ElT.mk' (z:=.agg #[.int .i64 0,.int .i64 0,.int .i64 0,.int .i64 0]) Tryz.underlying112 (by kernel_rfl) rfl (by decide) (by decide)
section
attribute [local go_sem] World.setCell_drew Zg Zf
structure Xs (own : Nat → Nat) (w : World) (x wb : Nat) (seed : Int) (dw : List Int) : Prop where
 ox : own x = 37
 ow : own wb = 38
 block : w.heap[x]? = some (.cells #[.int .i64 seed,Sl wb dw.length] 201 (0,0))
 words : w.heap[wb]? = some (.cells (Zfz dw) 241 (0,0))
 u64 : ∀ v ∈ dw,U64 v
 len : 1 ≤ dw.length ∧ dw.length ≤ 1000
theorem Xs.kept (h : Xs own w x wb seed dw) (he : Ext w own own') (ho : Zb S w w') (hS : ∀ b,b < w.heap.size → 37 ≤ own b → own b < 39 → ¬ S b) : Xs own' w' x wb seed dw := by
 have hx := Ze h.block
 have hw := Ze h.words
 exact ⟨(he x hx).trans h.ox,(he wb hw).trans h.ow,ho.kept h.block (hS x hx (by rw [h.ox]; omega) (by rw [h.ox]; omega)),ho.kept h.words (hS wb hw (by rw [h.ow]; omega) (by rw [h.ow]; omega)),h.u64,h.len⟩
theorem Zwd (wb n : Nat) (c1 : w.cell? ⟨x,1,none⟩ = some (Sl wb n)) (hn : n ≤ 1000) : Calls Ydz 191 #[.pointer (some ⟨x,0,none⟩)] w fun e w' => e = .returned (.int .i64 (64 * (n : Int))) ∧ w = w' := by
 go_enter Tryz.func191,Tryz.ntmps191
 go_wp2
 go_ret
 exact ⟨rfl,rfl⟩
theorem Zaj (z : Value) (hz : z.cells = #[z]) (n : Nat) : madeCells z.cells n = (Yd1 n z).toArray := by
 apply Array.ext_getElem?
 intro i
 simp only [madeCells,hz]
 by_cases h : i < n
 ·simp [h,Nat.mod_one]
 ·simp [h]
theorem Zny (n : Nat) (hn : n ≤ 100000) (W : World) : (Instr.makeSlice 25 (.int .i64 (n : Int)) (.int .i64 (n : Int))).run Ydz W = .ok (Sl W.heap.size n) (W.alloc (.cells (Yd1 n (Value.int .i64 0)).toArray 3)) := by
 obtain ⟨i,z,hi,hz0,hz1,hz2,hz3⟩ := Zd1.hi
 have hz : z = .int .i64 0 := by
  obtain ⟨i2,hi2,h2,h3,h4⟩ := info_parts (show (Ydz.info? 3).map (fun i => (i.zero,i.size,i.bytes)) = some (some (.int .i64 0),1,8) from by kernel_rfl)
  rw [hi2] at hi; cases hi; rw [h2] at hz0; cases hz0; rfl
 have := run_makeSlice W 25 3 i z Zd1.ht hi hz0 .i64 .i64 (n : Int) (n : Int) (by omega) (Int.le_refl _) (by rw [hz1]; simp; omega) (by rw [hz2]; omega) (by omega)
 rw [this,hz1,hz,Zaj _ rfl]
 simp
theorem Zu4 (n : Nat) (hn : n ≤ 100000) (W : World) : (Instr.makeSlice 196 (.int .i64 (n : Int)) (.int .i64 (n : Int))).run Ydz W = .ok (Sl W.heap.size n) (W.alloc (.cells (Zfz (Yd1 n 0)) 241)) := by
 obtain ⟨i,hi,hz0,hz1,hz2⟩ := info_parts (show (Ydz.info? 241).map (fun i => (i.zero,i.size,i.bytes)) = some (some (.int .u64 0),1,8) from by kernel_rfl)
 have := run_makeSlice W 196 241 i _ Yed hi hz0 .i64 .i64 (n : Int) (n : Int) (by omega) (Int.le_refl _) (by rw [hz1]; simp; omega) (by rw [hz2]; omega) (by omega)
 rw [this,hz1,Zaj _ rfl]
 simp [Zfz]
theorem Zyb (W : World) : (Instr.makeSlice 25 (.int .i64 2) (.int .i64 2)).run Ydz W = .ok (Sl W.heap.size 2) (W.alloc (.cells #[.int .i64 0,.int .i64 0] 3)) := Zny 2 (by omega) W
theorem tix (wb n q0 : Nat) (hd : q0 < n) (w3 : World) : (Instr.indexAt 196 (Sl wb n) (.int .i64 (q0:Int))).run Ydz w3 = .ok (.pointer (some ⟨wb,q0,none⟩)) w3 := by
 have hb : ¬ ((q0 : Int) < 0) := by omega
 go_simp
theorem Ycb (p : Nat) (hp : p ≤ 100000) (w : World) : (binOp .quo 3 (.int .i64 (p : Int)) (.int .i64 64)).run Ydz w = .ok (.int .i64 ((p / 64 : Nat) : Int)) w := by
 have e1 : IntKind.i64.wrap ((p : Int) / 64) = ((p / 64 : Nat) : Int) := by rw [IntWalk.i64_in _ (by omega)]; omega
 simp [binOp,go_sem,e1]
theorem Ycc (p : Nat) (hp : p ≤ 100000) (w : World) : (binOp .rem 3 (.int .i64 (p : Int)) (.int .i64 64)).run Ydz w = .ok (.int .i64 ((p % 64 : Nat) : Int)) w := by
 have e2 : ((p : Int).tmod 64) = ((p % 64 : Nat) : Int) := by rw [Int.tmod_eq_emod_of_nonneg (by omega)]; omega
 simp [binOp,go_sem,e2]
theorem Ycd (m : Nat) (hm : m < 64) (w : World) : (binOp .shl 241 (.int .u64 1) (.int .i64 (m : Int))).run Ydz w = .ok (.int .u64 (IntKind.u64.wrap (2 ^ m))) w := by
 have h2 : (m : Int) ≤ 64 := by omega
 simp [binOp,go_sem]
theorem Xg {Q : Act → Prop} (hg : o.guard = none) {op : BinOp} {t2 : TypeId} (x y : Operand) (hop : o.op = .binOp op t x y t2) {X Y V : Value} (hx : a.eval x = X) (hy : a.eval y = Y) (he : eqGuard op t x y X Y = pure ())
  (hr : (binOp op t X Y).run Ydz w = .ok V w) (h : wpStill Ydz ops w Q rest (a.put o.dst V)) : wpStill Ydz ops w Q (o :: rest) a := by
 show (if Region.wanted o (yielded ops a.tmps) = true then o.still Ydz a w (wpStill Ydz ops w Q rest) else _)
 rw [if_pos (by simp [Region.wanted,hg])]
 unfold Oper.still
 have e : (execOp a.eval o).run Ydz w = .ok (.value V) w := by
  simp [execOp,hop,hx,hy,he,hr,Result.andThen]
 rw [e,Oper.stillUpon_value]
 exact h
theorem Zae {Q : Act → Prop} (hg : o.guard = none) (x i : Operand) (hop : o.op = .indexAddr 196 x i) {q0 : Nat} (hx : a.eval x = Sl wb n) (hi : a.eval i = .int .i64 (q0 : Int)) (hd : q0 < n)
  (h : wpStill Ydz ops w Q rest (a.put o.dst (.pointer (some ⟨wb,q0,none⟩)))) : wpStill Ydz ops w Q (o :: rest) a := by
 have hr := tix wb n q0 hd w
 show (if Region.wanted o (yielded ops a.tmps) = true then o.still Ydz a w (wpStill Ydz ops w Q rest) else _)
 rw [if_pos (by simp [Region.wanted,hg])]
 unfold Oper.still
 have e : (execOp a.eval o).run Ydz w = .ok (.value (.pointer (some ⟨wb,q0,none⟩))) w := by
  simp [execOp,hop,hx,hi,hr,Result.andThen]
 rw [e,Oper.stillUpon_value]
 exact h
def PlQ (w : World) (p0 p1 : Nat) (e : Ending) (w' : World) : Prop := ∃ g,w.heap.size ≤ g ∧ e = .returned (Sl g 2) ∧ w'.heap[g]? = some (.cells #[.int .i64 (p0 : Int),.int .i64 (p1 : Int)] 3 (0,0)) ∧ Zb No w w'
theorem Zfh (wb n : Nat) (seed key : Int) (c0 : w.cell? ⟨x,0,none⟩ = some (.int .i64 seed)) (c1 : w.cell? ⟨x,1,none⟩ = some (Sl wb n)) (hn0 : 1 ≤ n) (hn : n ≤ 1000) :
  Calls Ydz 150 #[.pointer (some ⟨x,0,none⟩),.int .i64 key] w (PlQ w (Ye (Yf seed key) 0 (64 * n)) (Ye (Yf seed key) 1 (64 * n))) := by
 have hx := World.block_lt_of_cell? w _ c0
 have hxn : w.heap.size ≠ x := Nat.ne_of_gt hx
 have M := Ydy (Zee seed key)
 have I := Ydy (fun r hr W => Zid (Yf seed key) (Zed seed key) r hr (64 * n) (by omega) (by omega) W)
 have S := Ydy (fun (W : World) (c : W.cell? ⟨x,1,none⟩ = some (Sl wb n)) => Zwd wb n c hn)
 generalize Yf seed key = h at *
 have hmk := Zyb
 have I0 : Hid (∀ W,Calls Ydz 134 #[.int .u64 h,.int .i64 0,.int .i64 (64 * (n : Int))] W fun e w' => e = .returned (.int .i64 (Ye h 0 (64 * n) : Int)) ∧ W = w') := Ydy (fun W => by have := I.out 0 (by omega) W; push_cast at this; exact this)
 have I1 : Hid (∀ W,Calls Ydz 134 #[.int .u64 h,.int .i64 1,.int .i64 (64 * (n : Int))] W fun e w' => e = .returned (.int .i64 (Ye h 1 (64 * n) : Int)) ∧ W = w') := Ydy (fun W => by have := I.out 1 (by omega) W; push_cast at this; exact this)
 clear I
 generalize Ye h 0 (64 * n) = p0 at *
 generalize Ye h 1 (64 * n) = p1 at *
 have HQ : Hid (∀ e w',(∃ g,w.heap.size ≤ g ∧ e = .returned (Sl g 2) ∧ w'.heap[g]? = some (.cells #[.int .i64 (p0 : Int),.int .i64 (p1 : Int)] 3 (0,0)) ∧ Zb No w w') → PlQ w p0 p1 e w') := Ydy (fun _ _ h => h)
 go_enter Tryz.func150,Tryz.ntmps150
 go_wp2_with fail
 refine (M.out _).mono ?_
 rintro e w' ⟨rfl,rfl⟩
 go_wp2
 refine wp_loop_rounds 3 ?_
 rw [rounds_succ]
 go_wp2_with fail
 refine (S.out _ (by go_simp)).mono ?_
 rintro e w' ⟨rfl,rfl⟩
 go_wp2_with fail
 refine (I0.out _).mono ?_
 rintro e w' ⟨rfl,rfl⟩
 go_wp2
 rw [rounds_succ]
 go_wp2_with fail
 refine (S.out _ (by go_simp)).mono ?_
 rintro e w' ⟨rfl,rfl⟩
 go_wp2_with fail
 refine (I1.out _).mono ?_
 rintro e w' ⟨rfl,rfl⟩
 go_wp2
 rw [rounds_succ]
 go_wp2
 go_ret
 refine HQ.out _ _ ⟨w.heap.size,Yd4 _,rfl,?_,?_⟩
 ·exact Zh w _
 ·(repeat (first | with_reducible exact Zb.refl _ _ | with_reducible refine Zb.drew ?_ | with_reducible refine Zb.drewN ?_ _ | with_reducible refine Zb.alloc ?_ _ | ((with_reducible refine Zb.setCell ?_ ?_ _); rotate_left; first | exact .inl rfl | exact .inr (Yd4 _) | exact .inl (.inl rfl) | exact .inl (.inr rfl) | exact .inl (.inr (.inl rfl)) | exact .inl (.inr (.inr rfl)) | (focus (right; first | (simp; done) | (simp; omega))))))
theorem Zvf (x wb g n : Nat) (p0 p1 : Nat) (g0 g1 : Int) (c1 : w.cell? ⟨x,1,none⟩ = some (Sl wb n)) (k0 : w.cell? ⟨g,0,none⟩ = some (.int .i64 (p0 : Int))) (k1 : w.cell? ⟨g,1,none⟩ = some (.int .i64 (p1 : Int)))
  (q0 : w.cell? ⟨wb,p0 / 64,none⟩ = some (.int .u64 g0)) (q1 : w.cell? ⟨wb,p1 / 64,none⟩ = some (.int .u64 g1)) (h0 : p0 / 64 < n) (h1 : p1 / 64 < n) (u0 : U64 g0) (u1 : U64 g1) (b0 : p0 ≤ 100000) (b1 : p1 ≤ 100000) :
  Calls Ydz 151 #[.pointer (some ⟨x,0,none⟩),Sl g 2] w fun e w' => e = .returned (.bool (decide (Zgf g0 (p0 % 64) ≠ 0) && decide (Zgf g1 (p1 % 64) ≠ 0))) ∧ w = w' := by
 obtain ⟨u00,u01⟩ := u0
 obtain ⟨u10,u11⟩ := u1
 by_cases d0 : Zgf g0 (p0 % 64) = 0
 ·have e0 : (Go.bits .and .u64 (g0 / 2 ^ (p0 % 64)) 1 == 0) = true := beq_iff_eq.2 d0
  have HE := Ydy (show (decide (Zgf g0 (p0 % 64) ≠ 0) && decide (Zgf g1 (p1 % 64) ≠ 0)) = false by simp [d0])
  clear d0
  go_enter Yec,Yd9
  go_wp2
  refine wp_loop_rounds 3 ?_
  rw [rounds_succ]
  go_wp2
  go_ret
  exact ⟨by rw [HE.out]; rfl,rfl⟩
 ·have e0 : (Go.bits .and .u64 (g0 / 2 ^ (p0 % 64)) 1 == 0) = false := beq_eq_false_iff_ne.2 d0
  by_cases d1 : Zgf g1 (p1 % 64) = 0
  ·have e1 : (Go.bits .and .u64 (g1 / 2 ^ (p1 % 64)) 1 == 0) = true := beq_iff_eq.2 d1
   have HE := Ydy (show (decide (Zgf g0 (p0 % 64) ≠ 0) && decide (Zgf g1 (p1 % 64) ≠ 0)) = false by simp [d1])
   clear d0 d1
   go_enter Yec,Yd9
   go_wp2
   refine wp_loop_rounds 3 ?_
   rw [rounds_succ]
   go_wp2
   rw [rounds_succ]
   go_wp2
   go_ret
   exact ⟨by rw [HE.out]; rfl,rfl⟩
  ·have e1 : (Go.bits .and .u64 (g1 / 2 ^ (p1 % 64)) 1 == 0) = false := beq_eq_false_iff_ne.2 d1
   have HE := Ydy (show (decide (Zgf g0 (p0 % 64) ≠ 0) && decide (Zgf g1 (p1 % 64) ≠ 0)) = true by simp [d0,d1])
   clear d0 d1
   go_enter Yec,Yd9
   go_wp2
   refine wp_loop_rounds 3 ?_
   rw [rounds_succ]
   go_wp2
   rw [rounds_succ]
   go_wp2
   rw [rounds_succ]
   go_wp2
   go_ret
   exact ⟨by rw [HE.out]; rfl,rfl⟩
theorem Xs.at (h : Xs own w x wb seed dw) (hk : Int) (r : Nat) :
  Ye hk r (64 * dw.length) / 64 < dw.length ∧ w.cell? ⟨wb,Ye hk r (64 * dw.length) / 64,none⟩ = some (.int .u64 (dw.getD (Ye hk r (64 * dw.length) / 64) 0)) ∧ U64 (dw.getD (Ye hk r (64 * dw.length) / 64) 0) ∧ Ye hk r (64 * dw.length) ≤ 100000 := by
 have hl := h.len
 have hi := Qo hk r (n:=64 * dw.length) (by omega)
 have hd : Ye hk r (64 * dw.length) / 64 < dw.length := by omega
 exact ⟨hd,Za h.words (Za2 hd),h.u64 _ (Zgt _ hd),by omega⟩
theorem Zxx (h : Xs own w x wb seed dw) (key : Int) :
  Calls Ydz 216 #[.pointer (some ⟨x,0,none⟩),.int .i64 key] w fun e w' => e = .returned (.bool (Qa seed key dw)) ∧ Zb No w w' := by
 have P := Ydy (Zfh (x:=x) (w:=w) wb dw.length seed key (Za h.block rfl) (Za h.block rfl) h.len.1 h.len.2)
 have O : Hid (∀ w1 g,Zb No w w1 → w1.heap[g]? = some (.cells #[.int .i64 (Ye (Yf seed key) 0 (64 * dw.length) : Int),.int .i64 (Ye (Yf seed key) 1 (64 * dw.length) : Int)] 3 (0,0)) → Calls Ydz 151 #[.pointer (some ⟨x,0,none⟩),Sl g 2] w1 fun e w' => e = .returned (.bool (Qa seed key dw)) ∧ w1 = w') := Ydy (fun w1 g ho hg => by
  have h1 := h.kept (Yd3 w own) ho (fun _ _ _ _ h => h)
  obtain ⟨a0,a1,a2,a3⟩ := h1.at (Yf seed key) 0
  obtain ⟨b0,b1,b2,b3⟩ := h1.at (Yf seed key) 1
  exact Zvf x wb g dw.length _ _ _ _ (Za h1.block rfl) (Za hg rfl) (Za hg rfl) a1 b1 a0 b0 a2 b2 a3 b3)
 generalize Qa seed key dw = res at *
 clear h
 go_enter Tryz.func216,Tryz.ntmps216
 go_wp2_with fail
 refine (P.out).mono ?_
 rintro e w1 ⟨g,hg0,rfl,hg,ho⟩
 have O2 := Ydy (O.out w1 g ho hg)
 have HO := Ydy ho
 clear O ho hg
 go_wp2_with fail
 refine (O2.out).mono ?_
 rintro e w' ⟨rfl,rfl⟩
 go_wp2
 go_ret
 exact ⟨rfl,HO.out⟩
abbrev DoL (own : Nat → Nat) : Nat → Prop := Own own 37 39
theorem Xs.store (h : Xs own w x wb seed dw) (p : Nat) : Xs own (w.setCell ⟨wb,p / 64,none⟩ (.int .u64 (orV (dw.getD (p / 64) 0) (p % 64)))) x wb seed (J3 dw p) := by
 refine ⟨h.ox,h.ow,?_,?_,Zfn h.u64 (Zdx _ _ _),by unfold J3; rw [Yd7]; exact h.len⟩
 ·unfold J3
  rw [Yd7]
  exact Z7 h.block (fun e => by have h1 := h.ow; rw [← e,h.ox] at h1; omega) _ _
 ·unfold J3
  rw [← Zma]
  exact Zj h.words _ _
def Yb3 (own : Nat → Nat) (w : World) (x wb : Nat) (seed key : Int) (dw : List Int) (e : Ending) (w' : World) : Prop :=
 e = .returned (.bool (Qa seed key dw)) ∧ Xs own w' x wb seed (Ke seed key dw) ∧ Zb (DoL own) w w'
theorem Zvt (h : Xs own w x wb seed dw) (key : Int) :
  Calls Ydz 101 #[.pointer (some ⟨x,0,none⟩),.int .i64 key] w (Yb3 own w x wb seed key dw) := by
 have P := Ydy (Zfh (x:=x) (w:=w) wb dw.length seed key (Za h.block rfl) (Za h.block rfl) h.len.1 h.len.2)
 have O : Hid (∀ w1 g,Zb No w w1 → w1.heap[g]? = some (.cells #[.int .i64 (Ye (Yf seed key) 0 (64 * dw.length) : Int),.int .i64 (Ye (Yf seed key) 1 (64 * dw.length) : Int)] 3 (0,0)) → Calls Ydz 151 #[.pointer (some ⟨x,0,none⟩),Sl g 2] w1 fun e w' => e = .returned (.bool (Qa seed key dw)) ∧ w1 = w') := Ydy (fun w1 g ho hg => by
  have h1 := h.kept (Yd3 w own) ho (fun _ _ _ _ h => h)
  obtain ⟨a0,a1,a2,a3⟩ := h1.at (Yf seed key) 0
  obtain ⟨b0,b1,b2,b3⟩ := h1.at (Yf seed key) 1
  exact Zvf x wb g dw.length _ _ _ _ (Za h1.block rfl) (Za hg rfl) (Za hg rfl) a1 b1 a0 b0 a2 b2 a3 b3)
 have hD : Hid (∀ e w',(e = .returned (.bool (Qa seed key dw)) ∧ Xs own w' x wb seed (J3 (J3 dw (Ye (Yf seed key) 0 (64 * dw.length))) (Ye (Yf seed key) 1 (64 * dw.length))) ∧ Zb (DoL own) w w') → Yb3 own w x wb seed key dw e w') := Ydy (fun _ _ h => h)
 have H1 := Ydy (fun w1 (ho : Zb No w w1) => h.kept (Yd3 w own) ho (fun _ _ _ _ h => h))
 have hl := h.len
 have hwb := Ze h.words
 have hi0 := Qo (Yf seed key) 0 (n:=64 * dw.length) (by omega)
 have hi1 := Qo (Yf seed key) 1 (n:=64 * dw.length) (by omega)
 generalize Qa seed key dw = res at *
 generalize Ye (Yf seed key) 0 (64 * dw.length) = p0 at *
 generalize Ye (Yf seed key) 1 (64 * dw.length) = p1 at *
 clear h
 go_enter Tryz.func101,Tryz.ntmps101
 go_wp2_with fail
 refine (P.out).mono ?_
 rintro e w1 ⟨g,hg0,rfl,hg,ho⟩
 have O2 := Ydy (O.out w1 g ho hg)
 have HO := Ydy ho
 have HD := Ydy (H1.out w1 ho)
 have HG := Ydy hg
 clear O ho hg H1
 go_wp2_with fail
 refine (O2.out).mono ?_
 rintro e w' ⟨rfl,rfl⟩
 have H0 : Hid (∃ q0 m0 d0,p0 / 64 = q0 ∧ p0 % 64 = m0 ∧ dw.getD q0 0 = d0 ∧ (∀ W,Sm w1 W → Xs own (W.setCell ⟨wb,q0,none⟩ (.int .u64 (orV d0 m0))) x wb seed (J3 dw p0))) := Ydy ⟨_,_,_,rfl,rfl,rfl,fun W hs => (HD.out.kept (Yd3 _ _) hs.only (fun _ _ _ _ h => h)).store p0⟩
 have k0 := Za (j:=0) HG.out rfl
 have k1 := Za (j:=1) HG.out rfl
 have s1 := Za (j:=1) HD.out.block rfl
 have hd0 : p0 / 64 < dw.length := by omega
 have hd1 : p1 / 64 < dw.length := by omega
 have r0 := Za HD.out.words (Za2 hd0)
 have f0 := Zc HD.out.words (p0 / 64)
 have hgw : g ≠ wb := by omega
 have hxw : x ≠ wb := fun e => by have h1 := HD.out.ox; have h2 := HD.out.ow; rw [e] at h1; omega
 go_wp2
 refine wp_loop_rounds 3 ?_
 rw [rounds_succ]
 go_wp2
 have BQ := Ydy (Ycb p0 (by omega))
 have BR := Ydy (Ycc p0 (by omega))
 have BS := Ydy (Ycd (p0 % 64) (by omega))
 obtain ⟨q0,m0,d0,eq0,em0,ed0,hD1⟩ := H0.out
 rw [eq0] at BQ hd0 r0 f0
 rw [em0] at BR BS
 rw [ed0] at r0
 have HD1 := Ydy hD1
 have HQ0 := hd0
 clear H0 eq0 em0 ed0 hD1
 refine Z4 13 (by kernel_rfl) (by kernel_rfl) ?_
 intro W3 hc3 hf3 hs3 HW3
 simp only [Yeb,List.take_zero,Yea,List.drop_zero]
 iterate 5 still_step
 refine Xg rfl _ _ rfl rfl rfl rfl (BQ.out _) ?_
 simp only [Act.put]
 refine Zae rfl _ _ rfl rfl rfl HQ0 ?_
 simp only [Act.put]
 iterate 2 still_step
 refine Xg rfl _ _ rfl rfl rfl rfl (BR.out _) ?_
 simp only [Act.put]
 refine Xg rfl _ _ rfl rfl rfl rfl (BS.out _) ?_
 simp only [Act.put]
 still_step
 refine Zae rfl _ _ rfl rfl rfl HQ0 ?_
 simp only [Act.put]
 refine wpStill_nil ?_
 go_wp2
 have HD2 := Ydy (HD1.out W3 (by rw [← HW3.out]; exact ⟨rfl,rfl,rfl,rfl⟩))
 have ow3 : Zb (fun _ => False) w1 W3 := by rw [← HW3.out]; exact ⟨rfl,rfl,rfl,Yd4 _,fun _ _ _ => rfl⟩
 have HO3 := Ydy ow3
 have kk1 : W3.cell? ⟨g,1,none⟩ = some (.int .i64 (p1 : Int)) := by rw [hc3]; exact k1
 clear ow3
 have HE : Hid (W3.setCell ⟨wb,q0,none⟩ (.int .u64 (Go.bits .or .u64 d0 (IntKind.u64.wrap (2 ^ m0)))) = W3.setCell ⟨wb,q0,none⟩ (.int .u64 (orV d0 m0))) := Ydy rfl
 rw [HE.out]
 have kx1 : (W3.setCell ⟨wb,q0,none⟩ (.int .u64 (orV d0 m0))).cell? ⟨g,1,none⟩ = some (.int .i64 (p1 : Int)) := Zi kk1 (by intro e; cases e; exact hgw rfl)
 have HO4 : Hid (Zb (DoL own) w1 (W3.setCell ⟨wb,q0,none⟩ (.int .u64 (orV d0 m0)))) := Ydy (HO3.out.no.setCell (p:=⟨wb,q0,none⟩) (.inl ⟨by have := HD.out.ow; simp only; omega,by have := HD.out.ow; simp only; omega⟩) _)
 clear hc3 hf3 hs3 HW3 HE HO3 kk1 k0 k1 s1 r0 f0 HQ0 hd0 BQ BR BS HD1
 generalize W3.setCell ⟨wb,q0,none⟩ (.int .u64 (orV d0 m0)) = w1' at *
 have HL : (J3 dw p0).length = dw.length := by simp [J3]
 have s1 : w1'.cell? ⟨x,1,none⟩ = some (Sl wb dw.length) := by have := Za (j:=1) HD2.out.block rfl; rw [HL] at this; exact this
 have hd0 : p1 / 64 < dw.length := hd1
 have r0 := Za HD2.out.words (Za2 (by rw [HL]; exact hd0))
 have f0 := Zc HD2.out.words (p1 / 64)
 have H0 : Hid (∃ q0 m0 d0,p1 / 64 = q0 ∧ p1 % 64 = m0 ∧ (J3 dw p0).getD q0 0 = d0 ∧ (∀ W,Sm w1' W → Xs own (W.setCell ⟨wb,q0,none⟩ (.int .u64 (orV d0 m0))) x wb seed (J3 (J3 dw p0) p1))) := Ydy ⟨_,_,_,rfl,rfl,rfl,fun W hs => (HD2.out.kept (Yd3 _ _) hs.only (fun _ _ _ _ h => h)).store p1⟩
 have HLL := Ydy HL
 clear HL hd1
 rw [rounds_succ]
 go_wp2
 have BQ := Ydy (Ycb p1 (by omega))
 have BR := Ydy (Ycc p1 (by omega))
 have BS := Ydy (Ycd (p1 % 64) (by omega))
 obtain ⟨q1,m1,d1,eq0,em0,ed0,hD1⟩ := H0.out
 rw [eq0] at BQ hd0 r0 f0
 rw [em0] at BR BS
 rw [ed0] at r0
 have HD1 := Ydy hD1
 have HQ0 := hd0
 clear H0 eq0 em0 ed0 hD1
 refine Z4 13 (by kernel_rfl) (by kernel_rfl) ?_
 intro W3 hc3 hf3 hs3 HW3
 simp only [Yeb,List.take_zero,Yea,List.drop_zero]
 iterate 5 still_step
 refine Xg rfl _ _ rfl rfl rfl rfl (BQ.out _) ?_
 simp only [Act.put]
 refine Zae rfl _ _ rfl rfl rfl HQ0 ?_
 simp only [Act.put]
 iterate 2 still_step
 refine Xg rfl _ _ rfl rfl rfl rfl (BR.out _) ?_
 simp only [Act.put]
 refine Xg rfl _ _ rfl rfl rfl rfl (BS.out _) ?_
 simp only [Act.put]
 still_step
 refine Zae rfl _ _ rfl rfl rfl HQ0 ?_
 simp only [Act.put]
 refine wpStill_nil ?_
 go_wp2
 have HD3 := Ydy (HD1.out W3 (by rw [← HW3.out]; exact ⟨rfl,rfl,rfl,rfl⟩))
 have ow3 : Zb (fun _ => False) w1' W3 := by rw [← HW3.out]; exact ⟨rfl,rfl,rfl,Yd4 _,fun _ _ _ => rfl⟩
 have HO5 : Hid (Zb (DoL own) w1' (W3.setCell ⟨wb,q1,none⟩ (.int .u64 (orV d1 m1)))) := Ydy (ow3.no.setCell (p:=⟨wb,q1,none⟩) (.inl ⟨by have := HD.out.ow; simp only; omega,by have := HD.out.ow; simp only; omega⟩) _)
 clear ow3
 rw [rounds_succ]
 go_wp2
 go_ret
 exact hD.out _ _ ⟨rfl,HD3.out,HO.out.no.trans (HO4.out.trans HO5.out)⟩
theorem Zha {tb : TypeId} (vs : List Value) : ∀ (o : Nat) (w : World) (pre post : List Value),w.heap[b]? = some (.cells (pre ++ post).toArray tb (0,0)) → pre.length = o → post.length = vs.length → (w.setCells b o vs).heap[b]? = some (.cells (pre ++ vs).toArray tb (0,0)) := by
 induction vs with
 | nil =>
  intro o w pre post h _ h2
  have : post = [] := Yd6.1 (by simpa using h2)
  subst this
  exact h
 | cons v vs ih =>
  intro o w pre post h h1 h2
  cases post with
  | nil => simp at h2
  | cons u post =>
   have hs := Zj h o v
   have e : (pre ++ u :: post).toArray.setIfInBounds o v = ((pre ++ [v]) ++ post).toArray := by
    subst h1
    simp
   rw [e] at hs
   have := ih (o + 1) _ (pre ++ [v]) post hs (by simp [h1]) (by simpa using h2)
   rw [Yef] at this
   exact this
theorem Zdd (hb : S b) (vs : List Value) : ∀ (o : Nat) (a w : World),Zb S a w → Zb S a (w.setCells b o vs) := by
 induction vs with
 | nil => intro o a w h; exact h
 | cons v vs ih => intro o a w h; exact ih _ _ _ (h.setCell (p:=⟨b,o,none⟩) (.inl hb) _)
theorem Zzp (w : World) : (zeroValue 241).run Ydz w = .ok (.int .u64 0) w := by kernel_rfl
theorem Zgx (l : List Int) : l.map (fun _ => (0 : Int)) = Yd1 l.length 0 := by
 induction l with
 | nil => rfl
 | cons a r ih => rw [List.map_cons,ih]; rfl
theorem Zm2 (h : Xs own w x wb seed dw) :
  Calls Ydz 103 #[.pointer (some ⟨x,0,none⟩)] w fun e w' => e = .returned (.tuple #[]) ∧ Xs own w' x wb seed (dw.map (fun _ => 0)) ∧ Zb (DoL own) w w' := by
 have s1 := Za (j:=1) h.block rfl
 have hcl : ∀ ty,(Builtin.clear_ #[196] ty #[Sl wb dw.length]).run Ydz w = .ok (.tuple #[]) (w.setCells wb 0 (Yd1 dw.length (.int .u64 0))) := fun ty =>
  Lib.run_clear_slice w 196 241 ty (.int .u64 0) Yed Zzp rfl rfl wb 0 dw.length dw.length h.len.1 (fun j hj => by rw [Nat.zero_add,Za h.words (Za2 hj)]; rfl) (fun j _ => Zc h.words _)
 have HF : Hid (Xs own (w.setCells wb 0 (Yd1 dw.length (.int .u64 0))) x wb seed (dw.map (fun _ => 0)) ∧ Zb (DoL own) w (w.setCells wb 0 (Yd1 dw.length (.int .u64 0)))) := Ydy (by
  have ho : Zb (DoL own) w (w.setCells wb 0 (Yd1 dw.length (.int .u64 0))) := Zdd ⟨by have := h.ow; omega,by have := h.ow; omega⟩ _ _ _ _ (Zb.refl _ _)
  have ho2 : Zb (fun b => b = wb) w (w.setCells wb 0 (Yd1 dw.length (.int .u64 0))) := Zdd (S:=fun b => b = wb) rfl _ _ _ _ (Zb.refl _ _)
  have hz : dw.map (fun _ => (0 : Int)) = Yd1 dw.length 0 := Zgx dw
  refine ⟨⟨h.ox,h.ow,?_,?_,?_,by simpa using h.len⟩,ho⟩
  ·rw [List.length_map]
   exact ho2.kept h.block (fun e => by have h1 := h.ow; rw [← e,h.ox] at h1; omega)
  ·have hw := h.words
   have := Zha (Yd1 dw.length (.int .u64 0)) 0 w [] (dw.map (Value.int .u64)) hw rfl (by simp)
   rw [hz]
   simpa [Zfz] using this
  ·intro v hv
   rw [hz] at hv
   have := Yd5 hv
   subst this
   exact ⟨by omega,by omega⟩)
 clear h
 go_enter Tryz.func103,Tryz.ntmps103
 go_wp2_with (simp only [hcl])
 go_end0
 exact ⟨rfl,HF.out⟩
theorem Yaa (n : Int) (hn : n ≤ 512) : ∃ m,(m = 1 ∨ m = 2 ∨ m = 4 ∨ m = 8 ∨ m = 16 ∨ m = 32) ∧ Yt n 16 12 = ((16 * m : Nat) : Int) := by
 unfold Yt
 by_cases h1 : 16 < n
 ·by_cases h2 : 32 < n
  ·by_cases h3 : 64 < n
   ·by_cases h4 : 128 < n
    ·by_cases h5 : 256 < n
     ·refine ⟨32,by omega,?_⟩
      simp [upV,h1,h2,h3,h4,h5]; omega
     ·refine ⟨16,by omega,?_⟩
      simp [upV,h1,h2,h3,h4]; omega
    ·refine ⟨8,by omega,?_⟩
     simp [upV,h1,h2,h3]; omega
   ·refine ⟨4,by omega,?_⟩
    simp [upV,h1,h2]; omega
  ·refine ⟨2,by omega,?_⟩
   simp [upV,h1]; omega
 ·refine ⟨1,by omega,?_⟩
  simp [upV]; omega
theorem Zkq {m : Nat} (h : m = 1 ∨ m = 2 ∨ m = 4 ∨ m = 8 ∨ m = 16 ∨ m = 32) : Yt ((16 * m : Nat) : Int) 16 12 = ((16 * m : Nat) : Int) := by
 rcases h with rfl | rfl | rfl | rfl | rfl | rfl <;> decide
def lab (own : Nat → Nat) (n a : Nat) : Nat → Nat := fun b => if b = n then a else own b
theorem Zn (own : Nat → Nat) (n a : Nat) : lab own n a n = a := if_pos rfl
theorem Zq {a : Nat} (h : b ≠ n) : lab own n a b = own b := if_neg h
theorem Ext.lab (h : Ext w own own') (hn : w.heap.size ≤ n) (a : Nat) : Ext w own (lab own' n a) := fun b hb => by rw [Zq (by omega)]; exact h b hb
def Zkf (own : Nat → Nat) (w : World) (seed : Int) (k : Nat) (e : Ending) (w' : World) : Prop := ∃ x wb own',e = .returned (.pointer (some ⟨x,0,none⟩)) ∧ Ext w own own' ∧ Xs own' w' x wb seed (Yd1 k 0) ∧ Zb No w w'
theorem Zt2 (own : Nat → Nat) (m : Nat) (h : m = 1 ∨ m = 2 ∨ m = 4 ∨ m = 8 ∨ m = 16 ∨ m = 32) (seed : Int) (w : World) :
  Calls Ydz 55 #[.int .i64 ((16 * m : Nat) : Int),.int .i64 seed] w (Zkf own w seed (2 * m)) := by
 have C := Zap ((16 * m : Nat) : Int) 16 65536 12 (by omega) (by decide) (by omega) (by decide +kernel) (by decide +kernel) w
 rw [show upV ((16 * m : Nat) : Int) 12 16 = ((16 * m : Nat) : Int) from Zkq h] at C
 have C := Ydy C
 have hmk := Zu4 (2 * m) (by omega)
 have hm : m ≤ 32 := by omega
 have hm1 : 1 ≤ m := by omega
 have hq : (8 * ((16 * m : Nat) : Int)) / 64 = ((2 * m : Nat) : Int) := by omega
 have HQ : Hid (∀ e w',(∃ x wb own',e = .returned (.pointer (some ⟨x,0,none⟩)) ∧ Ext w own own' ∧ Xs own' w' x wb seed (Yd1 (2 * m) 0) ∧ Zb No w w') → Zkf own w seed (2 * m) e w') := Ydy (fun _ _ h => h)
 have hk1 : 1 ≤ 2 * m ∧ 2 * m ≤ 64 := by omega
 generalize (2 * m) = k at *
 generalize hw16 : ((16 * m : Nat) : Int) = w16 at *
 have hb : 0 ≤ w16 ∧ w16 ≤ 512 := by omega
 obtain ⟨hb1,hb2⟩ := hb
 have H16 := Ydy hw16
 clear hw16
 go_enter Tryz.func55,Tryz.ntmps55
 go_wp2_with fail
 refine (C.out).mono ?_
 rintro e w' ⟨rfl,rfl⟩
 go_wp2
 go_ret
 refine HQ.out _ _ ⟨w.heap.size + 1,w.heap.size,lab (lab own w.heap.size 38) (w.heap.size + 1) 37,rfl,((Yd3 w own).lab (Yd4 _) _).lab (by omega) _,⟨Zn _ _ _,?_,?_,?_,?_,?_⟩,?_⟩
 ·rw [Zq (by omega),Zn]
 ·rw [Yd8]; exact Kj w _ _
 ·exact Zbv w _ _
 ·intro v hv
  have := Yd5 hv
  subst this
  exact ⟨by omega,by omega⟩
 ·rw [Yd8]; omega
 ·(repeat (first | with_reducible exact Zb.refl _ _ | with_reducible refine Zb.drew ?_ | with_reducible refine Zb.drewN ?_ _ | with_reducible refine Zb.alloc ?_ _ | ((with_reducible refine Zb.setCell ?_ ?_ _); rotate_left; first | exact .inl rfl | exact .inr (Yd4 _) | exact .inl (.inl rfl) | exact .inl (.inr rfl) | exact .inl (.inr (.inl rfl)) | exact .inl (.inr (.inr rfl)) | (focus (right; first | (simp; done) | (simp; omega))))))
end
end Go.Proofs.YtdkhbegheognnaaGreatDoor.W

/- Part of the proof of TopEvicts, joined by a program of the session: Mar Mas Mat Mau Mav Maw Max May Maz Mba. -/
import Derived.Test.YtdkhbegheognnaaGreatDoorJ11
import Derived.Test.YtdkhbegheognnaaGreatDoorJ01
import Derived.Test.YtdkhbegheognnaaGreatDoorJ10
import Derived.Deep.RegionHeld3
import Derived.Deep.RegionLaw
namespace Go.Proofs.YtdkhbegheognnaaGreatDoor.W
open Go.RowKit Go.Maps
open _root_.List renaming getElem_cons_succ → Ydz, getElem_cons_zero → Yd0, getElem_toArray → Yd1, setIfInBounds_toArray → Yd2, set_cons_succ → Yd3, set_cons_zero → Yd4, drop_succ_cons → Yed, take_succ_cons → Yee, drop_zero → Yef, take_zero → Yeg, getElem?_eq_some_iff → Yel
open _root_.Go.Proofs.Tryz renaming prog → Yd5
open _root_.Go.World renaming block_lt_of_cell? → Yd6, drew → Yd7, setCell_drew → Yen
open _root_.Nat renaming ne_of_lt → Yd8, le_succ → Yea, le_refl → Yec, ne_of_gt → Yeh, lt_succ_self → Yem
open Zb renaming refl → Yd9, alloc → Yei, drew → Yej
open _root_.Or renaming inl → Yeb
open Ext renaming refl → Yek
set_option maxHeartbeats 4000000
set_option maxRecDepth 100000
variable {own : Nat → Nat}
variable {w w' W : World}
variable {L : ML}
variable {s : St}
variable {m i tx p cx ex : Nat}
variable {t : Th}
variable {th n back k : Int}
variable {R R2 R3 : World → Prop}
variable {H : List (Int × Bool)}
variable {Rc : World → World → Prop}
variable {R1 : Nat → World → Prop}
section
attribute [local go_sem] Yen Zg Zf
def Zw4 (own : Nat → Nat) (lab p n : Nat) (ty sz : Nat) (C : Value → Obj) (xs : List Value) (w w' : World) : Prop := ∃ own' v',Ext w own own' ∧ Row own' lab w' ty sz v' n xs ∧ w'.heap[p]? = some (C v') ∧ Zb (fun b => b = p ∨ own b = lab) w w'
theorem Zfr (own : Nat → Nat) (p tx n : Nat) (a0 a1 a2 a3 a4 a5 a6 v a8 : Value) (xs : List Value) (th : Int) (r : Rec) (w : World) (hth : r.t = th) (hb : w.heap[p]? = some (.cells #[a0,a1,a2,a3,a4,a5,a6,v,a8] 63 (0,0))) (c0 : w.cell? ⟨tx,0,none⟩ = some (Pt p)) (c1 : w.cell? ⟨tx,1,none⟩ = some (.int .i64 th)) (hx : own p ≠ 5) (ht : own tx ≠ 5) (hpt : tx ≠ p) (hR : Row own 5 w 98 8 v n xs) (hn : n ≤ 1000000) :
  Calls Yd5 127 #[Pt tx,.int .i64 r.o,.int .i64 r.a,.agg #[.int .i64 r.c.d,.int .i64 r.c.k,.int .i64 r.c.v,.bool r.c.h],.int .i64 r.e] w fun e w' => e = .returned (.tuple #[]) ∧ Zw4 own 5 p (n + 1) 98 8 (fun v' => .cells #[a0,a1,a2,a3,a4,a5,a6,v',a8] 63) (xs ++ V8 r) w w' := by
 have hxb := Ze hb
 have c7 : w.cell? ⟨p,7,none⟩ = some v := Za hb rfl
 have hxne : p ≠ w.heap.size := Yd8 hxb
 have hxne2 : w.heap.size ≠ p := Yeh hxb
 have htx : tx < w.heap.size := Yd6 w _ c0
 have f7 : w.frozen? ⟨p,7,none⟩ = false := Zc hb 7
 have hnx : v.ownBlock ≠ some p := fun e => hx (hR.2 p e)
 have hnw : v.ownBlock ≠ some w.heap.size := fun e => Nat.lt_irrefl _ (hR.lt e)
 have HV : Hid (∀ g,v.ownBlock = some g → own g = 5) := Ydy hR.2
 have HR := Ydy hR
 have HB := Ydy hb
 subst hth
 unfold V8
 clear hR hb
 go_enter Tryz.func127,Tryz.ntmps127
 go_wp2
 have HRW : Hid (∀ o1 o2,Row own 5 (((w.alloc o1).drew).alloc o2) 98 8 v n xs) := Ydy fun o1 o2 => (HR.out.kept (S:=fun _ => False) (fun _ _ => rfl) ((((Yd9 _ w).alloc o1).drew).alloc o2) (fun _ _ _ h => h))
 have HN : Hid (∀ o1 o2,(((w.alloc o1).drew).alloc o2).heap[w.heap.size + 1]? = some o2) := Ydy (fun o1 o2 => by
  have h := Zh ((w.alloc o1).drew) o2
  rw [show ((w.alloc o1).drew).heap.size = w.heap.size + 1 from by simp [Yd7]] at h
  exact h)
 have HQ : Hid (∀ o1 o2 w4,(((w.alloc o1).drew).alloc o2).grownBy w4 v.ownBlock → w4.heap[p]? = some (.cells #[a0,a1,a2,a3,a4,a5,a6,v,a8] 63 (0,0))) := Ydy fun o1 o2 w4 hg => (hg.block p (by simp [Yd7]; omega) (Ne.symm hnx)).trans (Zm (w:=(w.alloc o1).drew) (Zm HB.out))
 have hnt : v.ownBlock ≠ some tx := fun e => ht (HV.out tx e)
 have HT : Hid (∀ o1 o2 w4,(((w.alloc o1).drew).alloc o2).grownBy w4 v.ownBlock → (∀ j,w4.cell? ⟨tx,j,none⟩ = w.cell? ⟨tx,j,none⟩)) := Ydy fun o1 o2 w4 hg j => World.cell?_of_block (show w4.heap[tx]? = w.heap[tx]? from (hg.block tx (by simp [Yd7]; omega) (Ne.symm hnt)).trans (by
  have h1 := RowKit.Below.heap_alloc w o1 tx htx
  have h2 := RowKit.Below.heap_alloc ((w.alloc o1).drew) o2 tx (by simp [Yd7]; omega)
  exact h2.trans h1))
 have HX : Hid (∀ o1 o2 w4,(((w.alloc o1).drew).alloc o2).grownBy w4 v.ownBlock → w4.heap[w.heap.size]? = some o1) := Ydy fun o1 o2 w4 hg => (hg.block _ (by simp [Yd7]; omega) (Ne.symm hnw)).trans (Zm (w:=(w.alloc o1).drew) (Zh w o1))
 have HO : Hid (∀ o1 o2 w4,(((w.alloc o1).drew).alloc o2).grownBy w4 v.ownBlock → Zb (fun b => b = p ∨ own b = 5) w w4) := Ydy fun o1 o2 w4 hg => ((((Yd9 _ w).alloc o1).drew).alloc o2).trans ⟨hg.os,hg.tape,hg.output,hg.size,fun b hb hn => hg.block b hb (fun e => hn (.inr (HV.out b e.symm)))⟩
 have htw : tx ≠ w.heap.size := Yd8 htx
 have hpt' : p ≠ tx := Ne.symm hpt
 refine wp_region_held_drew (S:=fun w' => w'.cell? ⟨tx,0,none⟩ = some (Pt p) ∧ w'.cell? ⟨tx,1,none⟩ = some (.int .i64 r.t) ∧ w'.cell? ⟨w.heap.size,0,none⟩ = some (.int .i64 r.c.d) ∧ w'.cell? ⟨w.heap.size,1,none⟩ = some (.int .i64 r.c.k) ∧ w'.cell? ⟨w.heap.size,2,none⟩ = some (.int .i64 r.c.v) ∧ w'.cell? ⟨w.heap.size,3,none⟩ = some (.bool r.c.h)) (by kernel_rfl) (by go_keep) (fun hS => ?_)
 refine wpAnyH_take (i:=0) (v:=?av0) rfl (by kernel_rfl) (by kernel_rfl) (by kernel_rfl) (fun _ _ _ h => h) (Yeb ⟨by rfl,?ah0⟩) hS ?ar0
 case ah0 => (intro w hSw; dsimp only [Yd1,Ydz,Yd0] at hSw ⊢; go_simp; try with_reducible rfl)
 dsimp only [Yd1,Ydz,Yd0]
 simp only [Act.put,Yd2,Yd4,Yd3]
 refine wpAnyH_take (i:=1) (v:=?av1) rfl (by kernel_rfl) (by kernel_rfl) (by kernel_rfl) (fun _ _ _ h => h) (Yeb ⟨by rfl,?ah1⟩) hS ?ar1
 case ah1 => (intro w hSw; dsimp only [Yd1,Ydz,Yd0] at hSw ⊢; go_simp; try with_reducible rfl)
 dsimp only [Yd1,Ydz,Yd0]
 simp only [Act.put,Yd2,Yd4,Yd3]
 refine wpAnyH_take (i:=2) (v:=?av2) rfl (by kernel_rfl) (by kernel_rfl) (by kernel_rfl) (fun _ _ _ h => h) (Yeb ⟨by rfl,?ah2⟩) hS ?ar2
 case ah2 => (intro w hSw; dsimp only [Yd1,Ydz,Yd0] at hSw ⊢; go_simp; try with_reducible rfl)
 dsimp only [Yd1,Ydz,Yd0]
 simp only [Act.put,Yd2,Yd4,Yd3]
 refine wpAnyH_take (i:=3) (v:=?av3) rfl (by kernel_rfl) (by kernel_rfl) (by kernel_rfl) (fun _ _ _ h => h) (Yeb ⟨by rfl,?ah3⟩) hS ?ar3
 case ah3 => (intro w hSw; dsimp only [Yd1,Ydz,Yd0] at hSw ⊢; go_simp; try with_reducible rfl)
 dsimp only [Yd1,Ydz,Yd0]
 simp only [Act.put,Yd2,Yd4,Yd3]
 refine wpAnyH_take (i:=4) (v:=?av4) rfl (by kernel_rfl) (by kernel_rfl) (by kernel_rfl) (fun _ _ _ h => h) (Yeb ⟨by rfl,?ah4⟩) hS ?ar4
 case ah4 => (intro w hSw; dsimp only [Yd1,Ydz,Yd0] at hSw ⊢; go_simp; try with_reducible rfl)
 dsimp only [Yd1,Ydz,Yd0]
 simp only [Act.put,Yd2,Yd4,Yd3]
 refine wpAnyH_take (i:=5) (v:=?av5) rfl (by kernel_rfl) (by kernel_rfl) (by kernel_rfl) (fun _ _ _ h => h) (Yeb ⟨by rfl,?ah5⟩) hS ?ar5
 case ah5 => (intro w hSw; dsimp only [Yd1,Ydz,Yd0] at hSw ⊢; go_simp; try with_reducible rfl)
 dsimp only [Yd1,Ydz,Yd0]
 simp only [Act.put,Yd2,Yd4,Yd3]
 refine wpAnyH_take (i:=6) (v:=?av6) rfl (by kernel_rfl) (by kernel_rfl) (by kernel_rfl) (fun _ _ _ h => h) (Yeb ⟨by rfl,?ah6⟩) hS ?ar6
 case ah6 => (intro w hSw; dsimp only [Yd1,Ydz,Yd0] at hSw ⊢; go_simp; try with_reducible rfl)
 dsimp only [Yd1,Ydz,Yd0]
 simp only [Act.put,Yd2,Yd4,Yd3]
 refine wpAnyH_take (i:=7) (v:=?av7) rfl (by kernel_rfl) (by kernel_rfl) (by kernel_rfl) (fun _ _ _ h => h) (Yeb ⟨by rfl,?ah7⟩) hS ?ar7
 case ah7 => (intro w hSw; dsimp only [Yd1,Ydz,Yd0] at hSw ⊢; go_simp; try with_reducible rfl)
 dsimp only [Yd1,Ydz,Yd0]
 simp only [Act.put,Yd2,Yd4,Yd3]
 refine wpAnyH_take (i:=8) (v:=?av8) rfl (by kernel_rfl) (by kernel_rfl) (by kernel_rfl) (fun _ _ _ h => h) (Yeb ⟨by rfl,?ah8⟩) hS ?ar8
 case ah8 => (intro w hSw; dsimp only [Yd1,Ydz,Yd0] at hSw ⊢; go_simp; try with_reducible rfl)
 dsimp only [Yd1,Ydz,Yd0]
 simp only [Act.put,Yd2,Yd4,Yd3]
 refine wpAnyH_take (i:=9) (v:=?av9) rfl (by kernel_rfl) (by kernel_rfl) (by kernel_rfl) (fun _ _ _ h => h) (Yeb ⟨by rfl,?ah9⟩) hS ?ar9
 case ah9 => (intro w hSw; dsimp only [Yd1,Ydz,Yd0] at hSw ⊢; go_simp; try with_reducible rfl)
 dsimp only [Yd1,Ydz,Yd0]
 simp only [Act.put,Yd2,Yd4,Yd3]
 refine wpAnyH_take (i:=11) (v:=?av11) rfl (by kernel_rfl) (by kernel_rfl) (by kernel_rfl) (fun _ _ _ h => h) (Yeb ⟨by rfl,?ah11⟩) hS ?ar11
 case ah11 => (intro w hSw; dsimp only [Yd1,Ydz,Yd0] at hSw ⊢; go_simp; try with_reducible rfl)
 dsimp only [Yd1,Ydz,Yd0]
 simp only [Act.put,Yd2,Yd4,Yd3]
 refine wpAnyH_take (i:=12) (v:=?av12) rfl (by kernel_rfl) (by kernel_rfl) (by kernel_rfl) (fun _ _ _ h => h) (Yeb ⟨by rfl,?ah12⟩) hS ?ar12
 case ah12 => (intro w hSw; dsimp only [Yd1,Ydz,Yd0] at hSw ⊢; go_simp; try with_reducible rfl)
 dsimp only [Yd1,Ydz,Yd0]
 simp only [Act.put,Yd2,Yd4,Yd3]
 refine wpAnyH_take (i:=13) (v:=?av13) rfl (by kernel_rfl) (by kernel_rfl) (by kernel_rfl) (fun _ _ _ h => h) (Yeb ⟨by rfl,?ah13⟩) hS ?ar13
 case ah13 => (intro w hSw; dsimp only [Yd1,Ydz,Yd0] at hSw ⊢; go_simp; try with_reducible rfl)
 dsimp only [Yd1,Ydz,Yd0]
 simp only [Act.put,Yd2,Yd4,Yd3]
 refine wpAnyH_take (i:=14) (v:=?av14) rfl (by kernel_rfl) (by kernel_rfl) (by kernel_rfl) (fun _ _ _ h => h) (Yeb ⟨by rfl,?ah14⟩) hS ?ar14
 case ah14 => (intro w hSw; dsimp only [Yd1,Ydz,Yd0] at hSw ⊢; go_simp; try with_reducible rfl)
 dsimp only [Yd1,Ydz,Yd0]
 simp only [Act.put,Yd2,Yd4,Yd3]
 refine wpAnyH_take (i:=15) (v:=?av15) rfl (by kernel_rfl) (by kernel_rfl) (by kernel_rfl) (fun _ _ _ h => h) (Yeb ⟨by rfl,?ah15⟩) hS ?ar15
 case ah15 => (intro w hSw; dsimp only [Yd1,Ydz,Yd0] at hSw ⊢; go_simp; try with_reducible rfl)
 dsimp only [Yd1,Ydz,Yd0]
 simp only [Act.put,Yd2,Yd4,Yd3]
 refine wpAnyH_take (i:=16) (v:=?av16) rfl (by kernel_rfl) (by kernel_rfl) (by kernel_rfl) (fun _ _ _ h => h) (Yeb ⟨by rfl,?ah16⟩) hS ?ar16
 case ah16 => (intro w hSw; dsimp only [Yd1,Ydz,Yd0] at hSw ⊢; go_simp; try with_reducible rfl)
 dsimp only [Yd1,Ydz,Yd0]
 simp only [Act.put,Yd2,Yd4,Yd3]
 refine wpAnyH_take (i:=17) (v:=?av17) rfl (by kernel_rfl) (by kernel_rfl) (by kernel_rfl) (fun _ _ _ h => h) (Yeb ⟨by rfl,?ah17⟩) hS ?ar17
 case ah17 => (intro w hSw; dsimp only [Yd1,Ydz,Yd0] at hSw ⊢; go_simp; try with_reducible rfl)
 dsimp only [Yd1,Ydz,Yd0]
 simp only [Act.put,Yd2,Yd4,Yd3]
 refine wpAnyH_take (i:=18) (v:=?av18) rfl (by kernel_rfl) (by kernel_rfl) (by kernel_rfl) (fun _ _ _ h => h) (Yeb ⟨by rfl,?ah18⟩) hS ?ar18
 case ah18 => (intro w hSw; dsimp only [Yd1,Ydz,Yd0] at hSw ⊢; go_simp; try with_reducible rfl)
 dsimp only [Yd1,Ydz,Yd0]
 simp only [Act.put,Yd2,Yd4,Yd3]
 refine wpAnyH_take (i:=19) (v:=?av19) rfl (by kernel_rfl) (by kernel_rfl) (by kernel_rfl) (fun _ _ _ h => h) (Yeb ⟨by rfl,?ah19⟩) hS ?ar19
 case ah19 => (intro w hSw; dsimp only [Yd1,Ydz,Yd0] at hSw ⊢; go_simp; try with_reducible rfl)
 dsimp only [Yd1,Ydz,Yd0]
 simp only [Act.put,Yd2,Yd4,Yd3]
 refine wpAnyH_ready (rs:=[10,20]) (by kernel_rfl) (by simp) ?_
 refine AllReadyH.cons rfl (fun K hK => ?_) (AllReadyH.cons rfl (fun K hK => ?_) AllReadyH.nil)
 ·dsimp only [Yd1,Ydz,Yd0]
  go_simp
  refine hK.out _ _ (by (try dsimp only); go_keep) (fun hS2 => ?_)
  clear hK K hS
  have hS := hS2
  clear hS2
  try simp only [Act.put,Yd2,Yd4,Yd3]
  refine wpAnyH_ready (rs:=[20]) (by kernel_rfl) (by simp) ?_
  refine AllReadyH.cons rfl (fun K hK => ?_) AllReadyH.nil
  dsimp only [Yd1,Ydz,Yd0]
  go_simp
  refine hK.out _ _ (by (try dsimp only); go_keep) (fun hS2 => ?_)
  clear hK K hS
  have hS := hS2
  clear hS2
  try simp only [Act.put,Yd2,Yd4,Yd3]
  refine wpAnyH_ready (rs:=[21]) (by kernel_rfl) (by simp) ?_
  refine AllReadyH.cons rfl (fun K hK => ?_) AllReadyH.nil
  (refine Jx (by rfl) _ _ _ (by rfl) Zgn (by rfl) (HRW.out _ _) (B:=w.heap.size + 1) (c:=1) (cs:=#[.int .i64 r.t,.int .i64 r.o,.int .i64 r.a,.int .i64 r.c.d,.int .i64 r.c.k,.int .i64 r.c.v,.bool r.c.h,.int .i64 r.e]) (tb:=98) (fr:=(0,0)) (by rfl) (HN.out _ _) (by rfl) (by simp [Value.oneCell']) hn (w.heap.size + 2) (by simp) ?_; intro g cap w4 hR4 hgrow hat hsz; have q0 := Ydy (HQ.out _ _ _ hgrow); have q1 := Za (j:=7) q0.out rfl; have q2 := Zc q0.out 7; have q3 := (HT.out _ _ _ hgrow 0).trans c0; have q4 := (HT.out _ _ _ hgrow 1).trans c1; have q6 := HX.out _ _ _ hgrow; have q7 := Za (j:=0) q6 rfl; have q8 := Za (j:=1) q6 rfl; have q9 := Za (j:=2) q6 rfl; have q10 := Za (j:=3) q6 rfl; clear q6; have HR4 := Ydy hR4; have HG4 := Ydy (HO.out _ _ _ hgrow); clear hR4 hgrow)
  refine hK.out _ _ (by (try dsimp only); go_keep) (fun hS2 => ?_)
  clear hK K hS
  have hS := hS2
  clear hS2
  dsimp only [Yd1,Ydz,Yd0]
  try simp only [Act.put,Yd2,Yd4,Yd3]
  refine wpAnyH_take (i:=22) (v:=?bv22) rfl (by kernel_rfl) (by kernel_rfl) (by kernel_rfl) (fun _ _ _ h => h) (Yeb ⟨by rfl,?bh22⟩) hS ?br22
  case bh22 => (intro w hSw; dsimp only [Yd1,Ydz,Yd0] at hSw ⊢; go_simp; try with_reducible rfl)
  dsimp only [Yd1,Ydz,Yd0]
  simp only [Act.put,Yd2,Yd4,Yd3]
  refine wpAnyH_take (i:=23) (v:=?bv23) rfl (by kernel_rfl) (by kernel_rfl) (by kernel_rfl) (fun _ _ _ h => h) (Yeb ⟨by rfl,?bh23⟩) hS ?br23
  case bh23 => (intro w hSw; dsimp only [Yd1,Ydz,Yd0] at hSw ⊢; go_simp; try with_reducible rfl)
  dsimp only [Yd1,Ydz,Yd0]
  simp only [Act.put,Yd2,Yd4,Yd3]
  refine wpAnyH_ready (rs:=[24]) (by kernel_rfl) (by simp) ?_
  refine AllReadyH.cons rfl (fun K hK => ?_) AllReadyH.nil
  dsimp only [Yd1,Ydz,Yd0]
  go_simp
  refine hK.out _ _ (by (try dsimp only); go_keep) (fun hS2 => ?_)
  clear hK K hS
  have hS := hS2
  clear hS2
  try simp only [Act.put,Yd2,Yd4,Yd3]
  refine wpAnyH_done (by kernel_rfl) ?_ _
  go_end0
  refine ⟨rfl,ext own (w.heap.size + 2) 5,.slice (some ⟨g,0,none⟩) (n + 1) cap,fun b hb => Zz (by omega),HR4.out.kept (S:=fun b => b = p) (fun _ _ => rfl) ((Yd9 (fun b => b = p) w4).setCell (p:=⟨p,7,none⟩) (.inl rfl) _) (fun b _ hb e => ?_),Zj q0.out 7 _,HG4.out.setCell (p:=⟨p,7,none⟩) (.inl (.inl rfl)) _⟩
  have e' : b = p := e
  subst e'
  rw [Zz (by omega)] at hb
  exact hx hb
 ·dsimp only [Yd1,Ydz,Yd0]
  go_simp
  refine hK.out _ _ (by (try dsimp only); go_keep) (fun hS2 => ?_)
  clear hK K hS
  have hS := hS2
  clear hS2
  try simp only [Act.put,Yd2,Yd4,Yd3]
  refine wpAnyH_ready (rs:=[10]) (by kernel_rfl) (by simp) ?_
  refine AllReadyH.cons rfl (fun K hK => ?_) AllReadyH.nil
  dsimp only [Yd1,Ydz,Yd0]
  go_simp
  refine hK.out _ _ (by (try dsimp only); go_keep) (fun hS2 => ?_)
  clear hK K hS
  have hS := hS2
  clear hS2
  try simp only [Act.put,Yd2,Yd4,Yd3]
  refine wpAnyH_ready (rs:=[21]) (by kernel_rfl) (by simp) ?_
  refine AllReadyH.cons rfl (fun K hK => ?_) AllReadyH.nil
  (refine Jx (by rfl) _ _ _ (by rfl) Zgn (by rfl) (HRW.out _ _) (B:=w.heap.size + 1) (c:=1) (cs:=#[.int .i64 r.t,.int .i64 r.o,.int .i64 r.a,.int .i64 r.c.d,.int .i64 r.c.k,.int .i64 r.c.v,.bool r.c.h,.int .i64 r.e]) (tb:=98) (fr:=(0,0)) (by rfl) (HN.out _ _) (by rfl) (by simp [Value.oneCell']) hn (w.heap.size + 2) (by simp) ?_; intro g cap w4 hR4 hgrow hat hsz; have q0 := Ydy (HQ.out _ _ _ hgrow); have q1 := Za (j:=7) q0.out rfl; have q2 := Zc q0.out 7; have q3 := (HT.out _ _ _ hgrow 0).trans c0; have q4 := (HT.out _ _ _ hgrow 1).trans c1; have q6 := HX.out _ _ _ hgrow; have q7 := Za (j:=0) q6 rfl; have q8 := Za (j:=1) q6 rfl; have q9 := Za (j:=2) q6 rfl; have q10 := Za (j:=3) q6 rfl; clear q6; have HR4 := Ydy hR4; have HG4 := Ydy (HO.out _ _ _ hgrow); clear hR4 hgrow)
  refine hK.out _ _ (by (try dsimp only); go_keep) (fun hS2 => ?_)
  clear hK K hS
  have hS := hS2
  clear hS2
  dsimp only [Yd1,Ydz,Yd0]
  try simp only [Act.put,Yd2,Yd4,Yd3]
  refine wpAnyH_take (i:=22) (v:=?cv22) rfl (by kernel_rfl) (by kernel_rfl) (by kernel_rfl) (fun _ _ _ h => h) (Yeb ⟨by rfl,?ch22⟩) hS ?cr22
  case ch22 => (intro w hSw; dsimp only [Yd1,Ydz,Yd0] at hSw ⊢; go_simp; try with_reducible rfl)
  dsimp only [Yd1,Ydz,Yd0]
  simp only [Act.put,Yd2,Yd4,Yd3]
  refine wpAnyH_take (i:=23) (v:=?cv23) rfl (by kernel_rfl) (by kernel_rfl) (by kernel_rfl) (fun _ _ _ h => h) (Yeb ⟨by rfl,?ch23⟩) hS ?cr23
  case ch23 => (intro w hSw; dsimp only [Yd1,Ydz,Yd0] at hSw ⊢; go_simp; try with_reducible rfl)
  dsimp only [Yd1,Ydz,Yd0]
  simp only [Act.put,Yd2,Yd4,Yd3]
  refine wpAnyH_ready (rs:=[24]) (by kernel_rfl) (by simp) ?_
  refine AllReadyH.cons rfl (fun K hK => ?_) AllReadyH.nil
  dsimp only [Yd1,Ydz,Yd0]
  go_simp
  refine hK.out _ _ (by (try dsimp only); go_keep) (fun hS2 => ?_)
  clear hK K hS
  have hS := hS2
  clear hS2
  try simp only [Act.put,Yd2,Yd4,Yd3]
  refine wpAnyH_done (by kernel_rfl) ?_ _
  go_end0
  refine ⟨rfl,ext own (w.heap.size + 2) 5,.slice (some ⟨g,0,none⟩) (n + 1) cap,fun b hb => Zz (by omega),HR4.out.kept (S:=fun b => b = p) (fun _ _ => rfl) ((Yd9 (fun b => b = p) w4).setCell (p:=⟨p,7,none⟩) (.inl rfl) _) (fun b _ hb e => ?_),Zj q0.out 7 _,HG4.out.setCell (p:=⟨p,7,none⟩) (.inl (.inl rfl)) _⟩
  have e' : b = p := e
  subst e'
  rw [Zz (by omega)] at hb
  exact hx hb
theorem Zzw (l : List Rec) : (Z5 l).length = l.length * 8 := by
 induction l with
 | nil => rfl
 | cons e r ih => simp only [Z5,V8,List.flatMap_cons,List.length_append,List.length_cons,List.length_nil] at *; omega
def MQ (own : Nat → Nat) (w w' : World) (L : ML) (s' : St) (k m : Nat) : Prop := ∃ own' L',Ext w own own' ∧ MAt own' w' L' s' ∧ Zb (NG own) w w' ∧ L'.p = L.p ∧ L'.tx = L.tx ∧ L'.cn ≤ L.cn + k ∧ L'.wn ≤ L.wn + m
theorem MQ.refl (h : MAt own w L s) (k m : Nat) : MQ own w w L s k m := ⟨own,L,Yek _ _,h,Yd9 _ _,rfl,rfl,by omega,by omega⟩
theorem MQ.sm {w'' : World} {k : Nat} (h : MQ own w w' L s k m) (hs : Sm w' w'') : MQ own w w'' L s k m := by
 obtain ⟨own',L',h1,h2,h3,h4,h5,h6,h7⟩ := h
 exact ⟨own',L',h1,h2.sm hs,Sm.then_only h3 hs,h4,h5,h6,h7⟩
theorem Zg6 (h : MAt own w L s) (ht : s.ths[i]? = some t) (hn : s.recs.length ≤ 1000000) (r : Rec) (hr : r.t = (i : Int)) :
  Calls Yd5 127 #[Pt (L.tx i),.int .i64 r.o,.int .i64 r.a,.agg #[.int .i64 r.c.d,.int .i64 r.c.k,.int .i64 r.c.v,.bool r.c.h],.int .i64 r.e] w fun e w' => e = .returned (.tuple #[]) ∧ MQ own w w' L (Z9 s r) 0 0 := by
 have T := h.ths i t ht
 have hx := T.ox
 have hpp := h.op
 have hi : i < s.ths.length := (Yel.1 ht).1
 have hpl := Ze h.parts
 refine (Zfr own L.p (L.tx i) s.recs.length _ _ _ _ _ _ _ _ _ (Z5 s.recs) (i : Int) r w hr h.parts (Za T.block rfl) (Za T.block rfl) (by omega) (by omega) (fun e => by rw [e] at hx; omega) h.recs hn).mono ?_
 rintro e w' ⟨rfl,own',v',he,hR,hB,hO⟩
 refine ⟨rfl,own',{ L with rec_ := v' },he,?_,hO.mono (fun b _ e => ?_),rfl,rfl,by simp,by simp⟩
 ·refine h.own (L':={ L with rec_ := v' }) (s':=Z9 s r) he hO (fun b hb e => ?_) (by rfl) (by rfl) hB ?_ ?_ ?_
  ·rcases e with rfl | e
   ·exact .inl hpp
   ·exact .inr (.inr (.inl e))
  ·exact h.keys.kept hO (fun e => by
   have := h.okm
   rcases e with e | e
   ·rw [e] at this; omega
   ·omega)
  ·have e1 : Z5 (Z9 s r).recs = Z5 s.recs ++ V8 r := by simp [Z5,Z9]
   have e2 : (Z9 s r).recs.length = s.recs.length + 1 := by simp [Z9]
   rw [e1,e2]; exact hR
  ·exact h.evs.kept he hO (fun b hb e z => by rcases z with rfl | z <;> omega)
 ·show own b ≠ 19
  rcases e with rfl | e <;> omega
theorem Zwa {s : Int} (c0 : w.cell? ⟨tx,0,none⟩ = some (Pt p)) (c1 : w.cell? ⟨tx,1,none⟩ = some (.int .i64 th)) (c5 : w.cell? ⟨p,5,none⟩ = some (Pt cx))
  (HC : Hid (∀ W,Sm w W → Calls Yd5 141 #[Pt cx,.int .i64 th,.int .i64 0,.int .i64 s] W fun r w' => r = .returned (.int .i64 0) ∧ R w')) :
  Calls Yd5 93 #[Pt tx,.int .i64 s] w fun e w' => e = .returned (.tuple #[]) ∧ R w' := by
 go_enter Tryz.func93,Tryz.ntmps93
 refine Z4 12 (by kernel_rfl) (by kernel_rfl) ?_
 intro W hcW hfW hsW HW
 simp only [Yee,Yeg,Yed,Yef]
 iterate 12 still_step
 refine wpStill_nil ?_
 go_wp2_with fail
 refine (HC.out W (by rw [← HW.out]; exact ⟨rfl,rfl,rfl,rfl⟩)).mono ?_
 rintro e w4 ⟨rfl,hq⟩
 go_wp2
 go_end0
 exact ⟨rfl,hq⟩
theorem Zl3 {s : Int} (c0 : w.cell? ⟨tx,0,none⟩ = some (Pt p)) (c1 : w.cell? ⟨tx,1,none⟩ = some (.int .i64 th)) (c5 : w.cell? ⟨p,5,none⟩ = some (Pt cx))
  (HC : Hid (∀ W,Sm w W → Calls Yd5 48 #[Pt cx,.int .i64 th,.int .i64 0] W fun r w' => r = .returned (.tuple #[.int .i64 s,.int .i64 0]) ∧ R w')) :
  Calls Yd5 95 #[Pt tx] w fun e w' => e = .returned (.int .i64 s) ∧ R w' := by
 go_enter Tryz.func95,Tryz.ntmps95
 go_wp2
 go_region_with (first | (go_at_call 48; refine (HC.out w.drew ⟨rfl,rfl,rfl,rfl⟩).mono ?_; rintro e w4 ⟨rfl,hq⟩))
 all_goals (try go_wp2)
 all_goals
  go_ret
  exact ⟨rfl,hq⟩
theorem MAt.ceq (h : MAt own w L s) (hs : Sm w W) {st : Int} {n : Nat} (q : CeQ own W L.cx st H n w') (hn : n ≤ L.cn + 1) : MQ own w w' L { s with status := st,locks := H } 1 0 := by
 obtain ⟨own',he,hc,ho⟩ := q
 have he' : Ext w own own' := fun b hb => he b (by rw [hs.size]; exact hb)
 have ho' : Zb (Own own 64 68) w w' := hs.only.trans ho
 refine ⟨own',{ L with cn := n },he',h.cells he' ho' hc,ho'.mono (fun b _ e => ?_),rfl,rfl,hn,by simp⟩
 have e1 : 64 ≤ own b ∧ own b < 68 := e
 show own b ≠ 19
 omega
theorem Zj5 (h : MAt own w L s) (ht : s.ths[i]? = some t) (hn : L.cn ≤ 1000000) (v : Int) :
  Calls Yd5 93 #[Pt (L.tx i),.int .i64 v] w fun e w' => e = .returned (.tuple #[]) ∧ MQ own w w' L { s with status := v } 1 0 := by
 have T := h.ths i t ht
 exact Zwa (th:=(i : Int)) (Za T.block rfl) (Za T.block rfl) (Za h.parts rfl) (Ydy fun W hs => (Zxe (h.sm hs).ce hn (i : Int) v).mono (fun _ _ q => ⟨q.1,h.ceq hs q.2 (Yec _)⟩))
theorem Zdq (h : MAt own w L s) (ht : s.ths[i]? = some t) (hn : L.cn ≤ 1000000) :
  Calls Yd5 95 #[Pt (L.tx i)] w fun e w' => e = .returned (.int .i64 s.status) ∧ MQ own w w' L s 1 0 := by
 have T := h.ths i t ht
 exact Zl3 (th:=(i : Int)) (Za T.block rfl) (Za T.block rfl) (Za h.parts rfl) (Ydy fun W hs => (Zts (h.sm hs).ce hn (i : Int)).mono (fun _ _ q => ⟨q.1,h.ceq hs q.2 (Yec _)⟩))
theorem Zku (c1 : w.cell? ⟨p,1,none⟩ = some (Pt ex)) (HC : Hid (Calls Yd5 24 #[Pt ex] w fun e w' => e = .returned (.int .i64 n) ∧ w = w')) :
  Calls Yd5 96 #[Pt p] w fun e w' => e = .returned (.int .i64 n) ∧ w = w' := by
 go_enter Tryz.func96,Tryz.ntmps96
 go_wp2_with fail
 refine HC.out.mono ?_
 rintro e w' ⟨rfl,rfl⟩
 go_wp2
 go_ret
 exact ⟨rfl,rfl⟩
theorem Vr (h : MAt own w L s) : Calls Yd5 96 #[Pt L.p] w fun e w' => e = .returned (.int .i64 (s.sh.n : Int)) ∧ w = w' :=
 Zku (Za h.parts rfl) (Ydy (Zpy h.sh))
theorem MQ.next {own1 : Nat → Nat} {w1 w2 : World} {L1 : ML} {s' : St} {k k' m' : Nat} (h1 : Ext w own own1) (h3 : Zb (NG own) w w1) (h4 : L1.p = L.p) (h5 : L1.tx = L.tx) (h6 : L1.cn ≤ L.cn + k) (h7 : L1.wn ≤ L.wn + m) (q : MQ own1 w1 w2 L1 s' k' m') : MQ own w w2 L s' (k + k') (m + m') := by
 obtain ⟨own2,L2,g1,g2,g3,g4,g5,g6,g7⟩ := q
 refine ⟨own2,L2,h1.trans h3.size g1,g2,h3.then g3 (fun i hi hT => ?_),g4.trans h4,g5.trans h5,by omega,by omega⟩
 have hT' : own1 i ≠ 19 := hT
 show own i ≠ 19
 rw [← h1 i hi]; exact hT'
theorem Xo (ht : s.ths[i]? = some t) (t' : Th) : (Zl s i t').ths[i]? = some t' := by
 have hi : i < s.ths.length := (Yel.1 ht).1
 simp [Zl,hi]
theorem Zm6 {s : Int} {R1 : World → Prop}
  (HS : Hid (Calls Yd5 95 #[Pt tx] w fun e w' => e = .returned (.int .i64 s) ∧ R1 w'))
  (HT : Hid (∀ w1,R1 w1 → Calls Yd5 93 #[Pt tx,.int .i64 2] w1 fun e w' => e = .returned (.tuple #[]) ∧ R2 w'))
  (HF : Hid (∀ w2,R2 w2 → ∃ x,w2.cell? ⟨tx,11,none⟩ = some x ∧ w2.frozen? ⟨tx,11,none⟩ = false))
  (HG : Hid (∀ w2,R2 w2 → Calls Yd5 86 #[Pt tx,.int .i64 10] (w2.setCell ⟨tx,11,none⟩ (.int .i64 back)) fun e w' => e = .returned (.bool true) ∧ R3 w')) :
  Calls Yd5 97 #[Pt tx,.int .i64 back] w fun e w' => e = .returned (.bool true) ∧ R3 w' := by
 go_enter Tryz.func97,Tryz.ntmps97
 go_wp2_with fail
 refine HS.out.mono ?_
 rintro e w1 ⟨rfl,h1⟩
 go_wp2_with fail
 refine (Zcx s w1).mono ?_
 rintro e w' ⟨rfl,rfl⟩
 go_wp2_with fail
 refine (HT.out w1 h1).mono ?_
 rintro e w2 ⟨rfl,h2⟩
 obtain ⟨x,c11,f11⟩ := HF.out w2 h2
 go_wp2_with fail
 refine (HG.out w2 h2).mono ?_
 rintro e w3 ⟨rfl,h3⟩
 go_wp2
 go_ret
 exact ⟨rfl,h3⟩
theorem Zh3 (h : MAt own w L s) (ht : s.ths[i]? = some t) (hn : L.cn + 2 ≤ 1000000) (back : Int) :
  Calls Yd5 97 #[Pt (L.tx i),.int .i64 back] w fun e w' => e = .returned (.bool true) ∧ MQ own w w' L (Zbb s i t back) 2 0 := by
 refine Zm6 (R1:=fun w1 => MQ own w w1 L s 1 0) (R2:=fun w2 => MQ own w w2 L { s with status := 2 } 2 0) (Ydy (Zdq h ht (by omega))) (Ydy fun w1 q => ?_) (Ydy fun w2 q => ?_) (Ydy fun w2 q => ?_)
 ·obtain ⟨own1,L1,e1,m1,o1,p1,t1,n1,k1⟩ := q
  have z := Zj5 m1 ht (by omega) 2
  rw [t1] at z
  exact z.mono (fun _ _ q => ⟨q.1,MQ.next (k:=1) (k':=1) e1 o1 p1 t1 n1 k1 q.2⟩)
 ·obtain ⟨own1,L1,e1,m1,o1,p1,t1,n1,k1⟩ := q
  have T := m1.ths i t ht
  rw [← t1]
  exact ⟨_,Za T.block rfl,Zc T.block _⟩
 ·obtain ⟨own1,L1,e1,m1,o1,p1,t1,n1,k1⟩ := q
  have T := m1.ths i t ht
  have ho : Zb (fun b => b = L1.tx i) w2 (w2.setCell ⟨L1.tx i,11,none⟩ (.int .i64 back)) := Zb.setCell (S:=fun b => b = L1.tx i) (Yd9 _ w2) (.inl rfl) _
  have m2 := m1.cell (t':={ t with back := back }) ht ho (Zj T.block 11 _) rfl rfl
  have z := Kz m2 (Xo (s:={ s with status := 2 }) ht { t with back := back }) 10
  have ng := NG.tx m1 ht ho
  rw [t1] at z ng
  refine z.mono (fun _ _ q => ⟨q.1,MQ.next (k:=2) (k':=0) (m':=0) e1 o1 p1 t1 n1 k1 ⟨own1,L1,Yek _ _,?_,ng.then q.2.2 (fun _ _ e => e),rfl,rfl,by omega,by omega⟩⟩)
  have e := q.2.1
  simpa [Zbb,Yk,Zl] using e
theorem Zzf (c0 : w.cell? ⟨tx,0,none⟩ = some (Pt p)) (c1 : w.cell? ⟨tx,1,none⟩ = some (.int .i64 th)) (c5 : w.cell? ⟨p,5,none⟩ = some (Pt cx))
  (HD : Hid (∀ W,Sm w W → Calls Yd5 96 #[Pt p] W fun e w' => e = .returned (.int .i64 n) ∧ W = w'))
  (HC : Hid (∀ W,Sm w W → Calls Yd5 132 #[Pt cx,.int .i64 th,.int .i64 n] W fun e w' => e = .returned (.tuple #[.bool true,.int .i64 0]) ∧ R w' ∧ w'.cell? ⟨tx,0,none⟩ = some (Pt p) ∧ w'.cell? ⟨tx,1,none⟩ = some (.int .i64 th) ∧ w'.cell? ⟨p,5,none⟩ = some (Pt cx)))
  (HY : Hid (∀ w1,R w1 → Calls Yd5 97 #[Pt tx,.int .i64 back] w1 fun e w' => e = .returned (.bool true) ∧ R3 w')) :
  Calls Yd5 87 #[Pt tx,.int .i64 back] w fun e w' => e = .returned (.bool true) ∧ R3 w' := by
 go_enter Tryz.func87,Tryz.ntmps87
 go_wp2
 go_region_held3 (fun w' => w'.cell? ⟨tx,0,none⟩ = some (Pt p) ∧ w'.cell? ⟨tx,1,none⟩ = some (.int .i64 th) ∧ w'.cell? ⟨p,5,none⟩ = some (Pt cx)) (go_keep)
  (first | (go_at_call 96; refine (HD.out w.drew ⟨rfl,rfl,rfl,rfl⟩).mono ?_; rintro e w' ⟨rfl,rfl⟩) | (go_at_call 132; refine (HC.out w.drew ⟨rfl,rfl,rfl,rfl⟩).mono ?_; rintro e w4 ⟨rfl,hq,k0,k1,k5⟩))
 go_wp2_with fail
 refine (HY.out w4 hq).mono ?_
 rintro e w5 ⟨rfl,h3⟩
 go_wp2
 go_ret
 exact ⟨rfl,h3⟩
theorem Ybp (c0 : w.cell? ⟨tx,0,none⟩ = some (Pt p)) (c1 : w.cell? ⟨tx,1,none⟩ = some (.int .i64 th)) (c5 : w.cell? ⟨p,5,none⟩ = some (Pt cx))
  (HD : Hid (∀ W,Sm w W → Calls Yd5 96 #[Pt p] W fun e w' => e = .returned (.int .i64 n) ∧ W = w'))
  (HC : Hid (∀ W,Sm w W → Calls Yd5 132 #[Pt cx,.int .i64 th,.int .i64 n] W fun e w' => e = .returned (.tuple #[.bool false,.int .i64 0]) ∧ R w' ∧ w'.cell? ⟨tx,0,none⟩ = some (Pt p) ∧ w'.cell? ⟨tx,1,none⟩ = some (.int .i64 th) ∧ w'.cell? ⟨p,5,none⟩ = some (Pt cx)))
  (HY : Hid (∀ w1,R w1 → Calls Yd5 86 #[Pt tx,.int .i64 back] w1 fun e w' => e = .returned (.bool true) ∧ R3 w')) :
  Calls Yd5 87 #[Pt tx,.int .i64 back] w fun e w' => e = .returned (.bool true) ∧ R3 w' := by
 go_enter Tryz.func87,Tryz.ntmps87
 go_wp2
 go_region_held3 (fun w' => w'.cell? ⟨tx,0,none⟩ = some (Pt p) ∧ w'.cell? ⟨tx,1,none⟩ = some (.int .i64 th) ∧ w'.cell? ⟨p,5,none⟩ = some (Pt cx)) (go_keep)
  (first | (go_at_call 96; refine (HD.out w.drew ⟨rfl,rfl,rfl,rfl⟩).mono ?_; rintro e w' ⟨rfl,rfl⟩) | (go_at_call 132; refine (HC.out w.drew ⟨rfl,rfl,rfl,rfl⟩).mono ?_; rintro e w4 ⟨rfl,hq,k0,k1,k5⟩))
 go_wp2_with fail
 refine (HY.out w4 hq).mono ?_
 rintro e w5 ⟨rfl,h3⟩
 go_wp2
 go_ret
 exact ⟨rfl,h3⟩
theorem MAt.held (h : MAt own w L s) (ht : s.ths[i]? = some t) (hs : Sm w W) {st : Int} {n : Nat} (q : CeQ own W L.cx st H n w') : w'.cell? ⟨L.tx i,0,none⟩ = some (Pt L.p) ∧ w'.cell? ⟨L.tx i,1,none⟩ = some (.int .i64 (i : Int)) ∧ w'.cell? ⟨L.p,5,none⟩ = some (Pt L.cx) := by
 obtain ⟨own',he,hc,ho⟩ := q
 have m := h.sm hs
 have T := m.ths i t ht
 have ox := T.ox
 have op := m.op
 exact ⟨Zd (w:=W) (Za T.block rfl) ho (fun e => by have e1 : 64 ≤ own (L.tx i) ∧ own (L.tx i) < 68 := e; omega),Zd (w:=W) (Za T.block rfl) ho (fun e => by have e1 : 64 ≤ own (L.tx i) ∧ own (L.tx i) < 68 := e; omega),Zd (w:=W) (Za m.parts rfl) ho (fun e => by have e1 : 64 ≤ own L.p ∧ own L.p < 68 := e; omega)⟩
theorem Zp1 (h : MAt own w L s) (ht : s.ths[i]? = some t) (hn : L.cn + 3 ≤ 1000000) {a : Int} {b : Bool} (hl : s.locks[s.sh.n]? = some (a,b)) (hab : b = true → a ≠ (i : Int)) (back : Int) :
  Calls Yd5 87 #[Pt (L.tx i),.int .i64 back] w fun e w' => e = .returned (.bool true) ∧ MQ own w w' L (Zhh s i t back) 3 0 := by
 have T := h.ths i t ht
 have hh : Xr s s.sh.n = b := by simp [Xr,List.getD,hl]
 cases b with
 | false =>
  rw [show Zhh s i t back = Zbb (V5 s i s.sh.n) i t back from by simp [Zhh,hh]]
  refine Zzf (R:=fun w1 => MQ own w w1 L (V5 s i s.sh.n) 1 0) (th:=(i : Int)) (n:=(s.sh.n : Int)) (Za T.block rfl) (Za T.block rfl) (Za h.parts rfl) (Ydy fun W hs => Vr (h.sm hs)) (Ydy fun W hs => (Ztt (h.sm hs).ce (by omega) hl (i : Int)).mono (fun _ _ q => ⟨q.1,h.ceq hs q.2 (Yec _),h.held ht hs q.2⟩)) (Ydy fun w1 q => ?_)
  obtain ⟨own1,L1,e1,m1,o1,p1,t1,n1,k1⟩ := q
  have z := Zh3 m1 ht (by omega) back
  rw [t1] at z
  exact z.mono (fun _ _ q => ⟨q.1,MQ.next (k:=1) (k':=2) e1 o1 p1 t1 n1 k1 q.2⟩)
 | true =>
  rw [show Zhh s i t back = Yk s i t back from by simp [Zhh,hh]]
  refine Ybp (R:=fun w1 => MQ own w w1 L s 1 0) (th:=(i : Int)) (n:=(s.sh.n : Int)) (Za T.block rfl) (Za T.block rfl) (Za h.parts rfl) (Ydy fun W hs => Vr (h.sm hs)) (Ydy fun W hs => (Zm0 (h.sm hs).ce (by omega) (i : Int) hl (hab rfl)).mono (fun _ _ q => ⟨q.1,h.ceq hs q.2 (Yec _),h.held ht hs q.2⟩)) (Ydy fun w1 q => ?_)
  obtain ⟨own1,L1,e1,m1,o1,p1,t1,n1,k1⟩ := q
  have z := Kz m1 ht back
  rw [t1] at z
  exact z.mono (fun _ _ q => ⟨q.1,MQ.next (k:=1) (k':=2) (m':=0) e1 o1 p1 t1 n1 k1 ⟨own1,L1,Yek _ _,q.2.1,q.2.2,rfl,rfl,by omega,by omega⟩⟩)
theorem Zll {ph : Int} (c0 : w.cell? ⟨tx,0,none⟩ = some (Pt p)) (c1 : w.cell? ⟨tx,1,none⟩ = some (.int .i64 th)) (c5 : w.cell? ⟨p,5,none⟩ = some (Pt cx))
  (HC : Hid (∀ W,Sm w W → Calls Yd5 133 #[Pt cx,.int .i64 th,.int .i64 k] W fun e w' => e = .returned (.int .i64 0) ∧ R w' ∧ w'.cell? ⟨tx,0,none⟩ = some (Pt p) ∧ w'.cell? ⟨tx,1,none⟩ = some (.int .i64 th) ∧ w'.cell? ⟨p,5,none⟩ = some (Pt cx)))
  (HY : Hid (∀ w1,R w1 → Calls Yd5 86 #[Pt tx,.int .i64 ph] w1 fun e w' => e = .returned (.bool true) ∧ R3 w')) :
  Calls Yd5 88 #[Pt tx,.int .i64 k,.int .i64 ph] w fun e w' => e = .returned (.bool true) ∧ R3 w' := by
 go_enter Tryz.func88,Tryz.ntmps88
 go_wp2
 go_region_held3 (fun w' => w'.cell? ⟨tx,0,none⟩ = some (Pt p) ∧ w'.cell? ⟨tx,1,none⟩ = some (.int .i64 th) ∧ w'.cell? ⟨p,5,none⟩ = some (Pt cx)) (go_keep)
  (first | (go_at_call 133; refine (HC.out w.drew ⟨rfl,rfl,rfl,rfl⟩).mono ?_; rintro e w4 ⟨rfl,hq,k0,k1,k5⟩) | (go_at_call 84; refine (Zuv _ _ _).mono ?_; rintro e w' ⟨rfl,h0⟩; have h0 := h0.symm; subst h0))
 go_wp2_with fail
 refine (HY.out w4 hq).mono ?_
 rintro e w5 ⟨rfl,h3⟩
 go_wp2
 go_ret
 exact ⟨rfl,h3⟩
theorem Zpe {ph : Int} (c0 : w.cell? ⟨tx,0,none⟩ = some (Pt p)) (c1 : w.cell? ⟨tx,1,none⟩ = some (.int .i64 th)) (c5 : w.cell? ⟨p,5,none⟩ = some (Pt cx))
  (HC : Hid (∀ W,Sm w W → Calls Yd5 133 #[Pt cx,.int .i64 th,.int .i64 k] W fun e w' => e = .returned (.int .i64 6) ∧ R w' ∧ w'.cell? ⟨tx,0,none⟩ = some (Pt p) ∧ w'.cell? ⟨tx,1,none⟩ = some (.int .i64 th) ∧ w'.cell? ⟨p,5,none⟩ = some (Pt cx))) :
  Calls Yd5 88 #[Pt tx,.int .i64 k,.int .i64 ph] w fun e w' => e = .returned (.bool false) ∧ R w' := by
 go_enter Tryz.func88,Tryz.ntmps88
 go_wp2
 go_region_held3 (fun w' => w'.cell? ⟨tx,0,none⟩ = some (Pt p) ∧ w'.cell? ⟨tx,1,none⟩ = some (.int .i64 th) ∧ w'.cell? ⟨p,5,none⟩ = some (Pt cx)) (go_keep)
  (first | (go_at_call 133; refine (HC.out w.drew ⟨rfl,rfl,rfl,rfl⟩).mono ?_; rintro e w4 ⟨rfl,hq,k0,k1,k5⟩) | (go_at_call 84; refine (Zuv _ _ _).mono ?_; rintro e w' ⟨rfl,h0⟩; have h0 := h0.symm; subst h0))
 go_wp2
 go_ret
 exact ⟨rfl,hq⟩
theorem Zpd (h : MAt own w L s) (ht : s.ths[i]? = some t) (hn : L.cn + 3 ≤ 1000000) {a : Int} {b : Bool} (k : Nat) (hl : s.locks[k]? = some (a,b)) (hab : b = true → a ≠ (i : Int)) (ph : Int) :
  Calls Yd5 88 #[Pt (L.tx i),.int .i64 (k : Int),.int .i64 ph] w fun e w' => e = .returned (.bool (!b)) ∧ MQ own w w' L (J7 s i t k ph) 1 0 := by
 have T := h.ths i t ht
 have hh : Xr s k = b := by simp [Xr,List.getD,hl]
 cases b with
 | false =>
  rw [show J7 s i t k ph = Yk (V5 s i k) i t ph from by simp [J7,hh]]
  refine Zll (R:=fun w1 => MQ own w w1 L (V5 s i k) 1 0) (th:=(i : Int)) (Za T.block rfl) (Za T.block rfl) (Za h.parts rfl) (Ydy fun W hs => (Zhz (h.sm hs).ce (by omega) hl (i : Int)).mono (fun _ _ q => ⟨q.1,h.ceq hs q.2 (Yec _),h.held ht hs q.2⟩)) (Ydy fun w1 q => ?_)
  obtain ⟨own1,L1,e1,m1,o1,p1,t1,n1,k1⟩ := q
  have z := Kz m1 (t:=t) ht ph
  rw [t1] at z
  exact z.mono (fun _ _ q => ⟨q.1,MQ.next (k:=1) (k':=0) (m':=0) e1 o1 p1 t1 n1 k1 ⟨own1,L1,Yek _ _,q.2.1,q.2.2,rfl,rfl,by omega,by omega⟩⟩)
 | true =>
  rw [show J7 s i t k ph = s from by simp [J7,hh]]
  exact Zpe (R:=fun w1 => MQ own w w1 L s 1 0) (th:=(i : Int)) (Za T.block rfl) (Za T.block rfl) (Za h.parts rfl) (Ydy fun W hs => (Zfe (h.sm hs).ce (i : Int) hl (hab rfl)).mono (fun _ _ q => ⟨q.1,h.ceq hs q.2 (by omega),h.held ht hs q.2⟩))
theorem Zmc {d : Int} {hb b2 b1 : Bool} (c0 : w.cell? ⟨tx,0,none⟩ = some (Pt p)) (c1 : w.cell? ⟨tx,1,none⟩ = some (.int .i64 th)) (c6 : w.cell? ⟨tx,6,none⟩ = some (.int .i64 k)) (c5 : w.cell? ⟨p,5,none⟩ = some (Pt cx)) (p1 : w.cell? ⟨p,1,none⟩ = some (Pt ex))
  (e2 : (d == 2) = b2) (e1 : (d == 1) = b1)
  (HD : Hid (∀ W,Sm w W → Calls Yd5 89 #[Pt ex,.int .i64 k] W fun e w' => e = .returned (.int .i64 n) ∧ Sm W w'))
  (HC : Hid (∀ W,Sm w W → Calls Yd5 139 #[Pt cx,.int .i64 th,.int .i64 n] W fun e w' => e = .returned (.int .i64 0) ∧ R w' ∧ w'.cell? ⟨tx,0,none⟩ = some (Pt p) ∧ w'.cell? ⟨tx,1,none⟩ = some (.int .i64 th) ∧ w'.cell? ⟨tx,6,none⟩ = some (.int .i64 k) ∧ w'.cell? ⟨p,5,none⟩ = some (Pt cx) ∧ w'.cell? ⟨p,1,none⟩ = some (Pt ex) ∧ w'.cell? ⟨tx,5,none⟩ = some (.int .i64 d) ∧ w'.cell? ⟨tx,8,none⟩ = some (.bool hb)))
  (HY : Hid (∀ w1,R w1 → Calls Yd5 86 #[Pt tx,.int .i64 (if b2 then 7 else if hb = false then 16 else if b1 then 6 else 7)] w1 fun e w' => e = .returned (.bool true) ∧ R3 w')) :
  Calls Yd5 91 #[Pt tx] w fun e w' => e = .returned (.bool true) ∧ R3 w' := by
 go_enter Tryz.func91,Tryz.ntmps91
 go_wp2
 go_region_held3 (fun w' => w'.cell? ⟨tx,0,none⟩ = some (Pt p) ∧ w'.cell? ⟨tx,1,none⟩ = some (.int .i64 th) ∧ w'.cell? ⟨tx,6,none⟩ = some (.int .i64 k) ∧ w'.cell? ⟨p,5,none⟩ = some (Pt cx) ∧ w'.cell? ⟨p,1,none⟩ = some (Pt ex)) (go_keep)
  (first | (go_at_call 89; refine (HD.out w.drew ⟨rfl,rfl,rfl,rfl⟩).mono ?_; rintro e w3 ⟨rfl,hs⟩; have a0 := (hs.cell ⟨tx,0,none⟩).trans (show w.drew.cell? ⟨tx,0,none⟩ = some (Pt p) from c0); have a1 := (hs.cell ⟨tx,1,none⟩).trans (show w.drew.cell? ⟨tx,1,none⟩ = some (.int .i64 th) from c1); have a6 := (hs.cell ⟨tx,6,none⟩).trans (show w.drew.cell? ⟨tx,6,none⟩ = some (.int .i64 k) from c6); have a5 := (hs.cell ⟨p,5,none⟩).trans (show w.drew.cell? ⟨p,5,none⟩ = some (Pt cx) from c5); have ap := (hs.cell ⟨p,1,none⟩).trans (show w.drew.cell? ⟨p,1,none⟩ = some (Pt ex) from p1); have hs3 : Sm w w3 := (show Sm w w.drew from ⟨rfl,rfl,rfl,rfl⟩).trans hs; clear hs) | (go_at_call 139; refine (HC.out w3 hs3).mono ?_; rintro e w4 ⟨rfl,hq,k0,k1,k6,k5,q1,k55,k8⟩))
 cases b2 <;> cases hb <;> cases b1
 all_goals
  go_wp2_with fail
  refine (HY.out w4 hq).mono ?_
  rintro e w5 ⟨rfl,h3⟩
  go_wp2
  go_ret
  exact ⟨rfl,h3⟩
theorem Zop (h : MAt own w L s) (ht : s.ths[i]? = some t) (hn : L.cn + 1 ≤ 1000000) (hl : s.locks[s.sh.shard t.com.k]? = some ((i : Int),true)) :
  Calls Yd5 91 #[Pt (L.tx i)] w fun e w' => e = .returned (.bool true) ∧ MQ own w w' L (Zc2 s i t) 1 0 := by
 have T := h.ths i t ht
 refine Zmc (R:=fun w1 => MQ own w w1 L (Yr s (s.sh.shard t.com.k)) 1 0) (th:=(i : Int)) (n:=(s.sh.shard t.com.k : Int)) (d:=t.com.d) (hb:=t.com.h) (b2:=t.com.d == 2) (b1:=t.com.d == 1) (Za T.block rfl) (Za T.block rfl) (Za T.block rfl) (Za h.parts rfl) (Za h.parts rfl) rfl rfl (Ydy fun W hs => (Zf9 (h.sm hs).sh t.com.k).mono (fun _ _ q => ⟨q.1,?_⟩)) (Ydy fun W hs => (Zgh (h.sm hs).ce (by omega) hl).mono (fun _ w4 q => ?_)) (Ydy fun w1 q => ?_)
 ·obtain ⟨m,hm⟩ := q.2
  rw [hm]
  exact ⟨rfl,rfl,rfl,rfl⟩
 ·obtain ⟨own',he,hc,ho⟩ := q.2
  have m := h.sm hs
  have T := m.ths i t ht
  have ox := T.ox
  have op := m.op
  have nt : ¬ Own own 64 68 (L.tx i) := fun e => by have e1 : 64 ≤ own (L.tx i) ∧ own (L.tx i) < 68 := e; omega
  have np : ¬ Own own 64 68 L.p := fun e => by have e1 : 64 ≤ own L.p ∧ own L.p < 68 := e; omega
  exact ⟨q.1,h.ceq hs q.2 (Yec _),Zd (w:=W) (Za T.block rfl) ho nt,Zd (w:=W) (Za T.block rfl) ho nt,Zd (w:=W) (Za T.block rfl) ho nt,Zd (w:=W) (Za m.parts rfl) ho np,Zd (w:=W) (Za m.parts rfl) ho np,Zd (w:=W) (Za T.block rfl) ho nt,Zd (w:=W) (Za T.block rfl) ho nt⟩
 ·obtain ⟨own1,L1,e1,m1,o1,p1,t1,n1,k1⟩ := q
  have z := Kz m1 (t:=t) ht (if (t.com.d == 2) = true then 7 else if t.com.h = false then 16 else if (t.com.d == 1) = true then 6 else 7)
  rw [t1] at z
  refine z.mono (fun _ _ q => ⟨q.1,MQ.next (k:=1) (k':=0) (m':=0) e1 o1 p1 t1 n1 k1 ⟨own1,L1,Yek _ _,?_,q.2.2,rfl,rfl,by omega,by omega⟩⟩)
  have e := q.2.1
  have hu : Zc2 s i t = Yk (Yr s (s.sh.shard t.com.k)) i t (if (t.com.d == 2) = true then 7 else if t.com.h = false then 16 else if (t.com.d == 1) = true then 6 else 7) := by
   unfold Zc2
   simp only [beq_iff_eq]
   split
   ·rfl
   ·split
    ·rfl
    ·split <;> rfl
  rw [hu]
  exact e
theorem Zij {cap : Nat} {a : Option Addr} (c : w.cell? ⟨tx,12,none⟩ = some (.slice a 0 cap))
  (HY : Hid (∀ W,Sm w W → Calls Yd5 86 #[Pt tx,.int .i64 11] W fun e w' => e = .returned (.bool true) ∧ R w')) :
  Calls Yd5 148 #[Pt tx] w fun e w' => e = .returned (.bool true) ∧ R w' := by
 go_enter Tryz.func148,Tryz.ntmps148
 go_wp2_with fail
 refine (HY.out _ (by exact ⟨rfl,rfl,rfl,rfl⟩)).mono ?_
 rintro e w5 ⟨rfl,h3⟩
 go_wp2
 go_ret
 exact ⟨rfl,h3⟩
theorem Zrf {n cap : Nat} {a : Option Addr} (hn : 0 < n) (c : w.cell? ⟨tx,12,none⟩ = some (.slice a n cap))
  (HY : Hid (∀ W,Sm w W → Calls Yd5 86 #[Pt tx,.int .i64 12] W fun e w' => e = .returned (.bool true) ∧ R w')) :
  Calls Yd5 148 #[Pt tx] w fun e w' => e = .returned (.bool true) ∧ R w' := by
 have hz : ¬ n = 0 := by omega
 go_enter Tryz.func148,Tryz.ntmps148
 go_wp2_with fail
 refine (HY.out _ (by exact ⟨rfl,rfl,rfl,rfl⟩)).mono ?_
 rintro e w5 ⟨rfl,h3⟩
 go_wp2
 go_ret
 exact ⟨rfl,h3⟩
theorem Zye (h : MAt own w L s) (ht : s.ths[i]? = some t) :
  Calls Yd5 148 #[Pt (L.tx i)] w fun e w' => e = .returned (.bool true) ∧ MQ own w w' L (K3 s i t) 0 0 := by
 have T := h.ths i t ht
 have go : ∀ ph : Int,∀ W,Sm w W → Calls Yd5 86 #[Pt (L.tx i),.int .i64 ph] W fun e w' => e = .returned (.bool true) ∧ MQ own w w' L (Yk s i t ph) 0 0 := fun ph W hs =>
  (Kz (h.sm hs) ht ph).mono (fun _ _ q => ⟨q.1,own,L,Yek _ _,q.2.1,hs.only.trans q.2.2,rfl,rfl,by omega,by omega⟩)
 have c : w.cell? ⟨L.tx i,12,none⟩ = some (L.vv i) := Za T.block rfl
 have hn : K3 s i t = Yk s i t (if t.vic = [] then 11 else 12) := by unfold K3; split <;> rfl
 rcases T.vic with ⟨hv,hl⟩ | ⟨g,off,cap,hv,_⟩
 ·rw [hn,if_pos hl]
  exact Zij (by rw [c,hv]) (Ydy (go 11))
 ·rw [hn]
  by_cases hl : t.vic = []
  ·rw [if_pos hl]
   exact Zij (by rw [c,hv,hl]; rfl) (Ydy (go 11))
  ·rw [if_neg hl]
   exact Zrf (List.length_pos_iff.2 hl) (by rw [c,hv]) (Ydy (go 12))
theorem Zkj {op d v er : Int} {hh : Bool} (c3 : w.cell? ⟨tx,3,none⟩ = some (.int .i64 op)) (c5 : w.cell? ⟨tx,5,none⟩ = some (.int .i64 d)) (c6 : w.cell? ⟨tx,6,none⟩ = some (.int .i64 k)) (c7 : w.cell? ⟨tx,7,none⟩ = some (.int .i64 v)) (c8 : w.cell? ⟨tx,8,none⟩ = some (.bool hh)) (c9 : w.cell? ⟨tx,9,none⟩ = some (.int .i64 er)) (hw : IntKind.i64.wrap (op + 1) = op + 1)
  (HC : Hid (∀ W,Sm w W → Calls Yd5 127 #[Pt tx,.int .i64 op,.int .i64 3,.agg #[.int .i64 d,.int .i64 k,.int .i64 v,.bool hh],.int .i64 er] W fun e w' => e = .returned (.tuple #[]) ∧ R w' ∧ w'.cell? ⟨tx,3,none⟩ = some (.int .i64 op) ∧ w'.frozen? ⟨tx,3,none⟩ = false))
  (HG : Hid (∀ w1,R w1 → Calls Yd5 86 #[Pt tx,.int .i64 0] (w1.setCell ⟨tx,3,none⟩ (.int .i64 (op + 1))) fun e w' => e = .returned (.bool true) ∧ R3 w')) :
  Calls Yd5 98 #[Pt tx] w fun e w' => e = .returned (.bool true) ∧ R3 w' := by
 go_enter Tryz.func98,Tryz.ntmps98
 go_wp2
 refine Z4 13 (by kernel_rfl) (by kernel_rfl) ?_
 intro W hcW hfW hsW HW
 simp only [Yee,Yeg,Yed,Yef]
 iterate 13 still_step
 refine wpStill_nil ?_
 go_wp2_with fail
 refine (HC.out W (by rw [← HW.out]; exact ⟨rfl,rfl,rfl,rfl⟩)).mono ?_
 rintro e w1 ⟨rfl,hq,k3,f3⟩
 go_wp2_with fail
 refine (HG.out w1 hq).mono ?_
 rintro e w2 ⟨rfl,h3⟩
 go_wp2
 go_ret
 exact ⟨rfl,h3⟩
end
theorem MQ.pre {k : Nat} (hs : Sm w W) (q : MQ own W w' L s k m) : MQ own w w' L s k m := by
 obtain ⟨own',L',h1,h2,h3,h4,h5,h6,h7⟩ := q
 exact ⟨own',L',fun b hb => h1 b (by rw [hs.size]; exact hb),h2,hs.only.trans h3,h4,h5,h6,h7⟩
theorem Zgu (h : MAt own w L s) (ht : s.ths[i]? = some t) (j : Nat) (v : Value) (t' : Th) (hb : ∀ cs,cs = #[Pt L.p,.int .i64 (i : Int),L.pv i,.int .i64 (t.op : Int),.int .i64 t.ph,.int .i64 t.com.d,.int .i64 t.com.k,.int .i64 t.com.v,.bool t.com.h,.int .i64 t.err,.int .i64 t.node,.int .i64 t.back,L.vv i] → thC L i t' = .cells (cs.setIfInBounds j v) 74) (hp : t'.prog = t.prog) (hv : t'.vic = t.vic) (ph : Int) :
  Calls Yd5 86 #[Pt (L.tx i),.int .i64 ph] (w.setCell ⟨L.tx i,j,none⟩ v) fun e w' => e = .returned (.bool true) ∧ MQ own w w' L (Yk s i t' ph) 0 0 := by
 have T := h.ths i t ht
 have ho : Zb (fun b => b = L.tx i) w (w.setCell ⟨L.tx i,j,none⟩ v) := Zb.setCell (S:=fun b => b = L.tx i) (Yd9 _ w) (.inl rfl) _
 have m2 := h.cell (t':=t') ht ho (by rw [hb _ rfl]; exact Zj T.block j v) hp hv
 have z := Kz m2 (Xo ht t') ph
 have ng := NG.tx h ht ho
 refine z.mono (fun _ _ q => ⟨q.1,own,L,Yek _ _,?_,ng.then q.2.2 (fun _ _ e => e),rfl,rfl,by omega,by omega⟩)
 have e := q.2.1
 simpa [Yk,Zl] using e
theorem Zmv (h : MAt own w L s) (ht : s.ths[i]? = some t) (hn : s.recs.length ≤ 1000000) (ho : t.op ≤ 1000000) :
  Calls Yd5 98 #[Pt (L.tx i)] w fun e w' => e = .returned (.bool true) ∧ MQ own w w' L (Zl (Z9 s ⟨i,t.op,3,t.com,t.err⟩) i { t with op := t.op + 1,ph := 0 }) 0 0 := by
 have T := h.ths i t ht
 refine Zkj (R:=fun w1 => MQ own w w1 L (Z9 s ⟨i,t.op,3,t.com,t.err⟩) 0 0) (op:=(t.op : Int)) (d:=t.com.d) (k:=t.com.k) (v:=t.com.v) (er:=t.err) (hh:=t.com.h) (Za T.block rfl) (Za T.block rfl) (Za T.block rfl) (Za T.block rfl) (Za T.block rfl) (Za T.block rfl) (IntWalk.i64_in ((t.op : Int) + 1) (by omega)) (Ydy fun W hs => ?_) (Ydy fun w1 q => ?_)
 ·refine (Zg6 (h.sm hs) ht hn ⟨i,t.op,3,t.com,t.err⟩ rfl).mono (fun _ w' q => ⟨q.1,q.2.pre hs,?_⟩)
  obtain ⟨own1,L1,e1,m1,o1,p1,t1,n1,k1⟩ := q.2
  have U := m1.ths i t ht
  rw [← t1]
  exact ⟨Za U.block rfl,Zc U.block _⟩
 ·obtain ⟨own1,L1,e1,m1,o1,p1,t1,n1,k1⟩ := q
  rw [← t1]
  refine (Zgu m1 (s:=Z9 s ⟨i,t.op,3,t.com,t.err⟩) ht 3 (.int .i64 ((t.op : Int) + 1)) { t with op := t.op + 1 } (fun cs hc => by rw [hc]; rfl) rfl rfl 0).mono (fun _ _ q => ⟨q.1,MQ.next (k:=0) (k':=0) (m:=0) (m':=0) e1 o1 p1 t1 (by omega) (by omega) q.2⟩)
section
attribute [local go_sem] Yen Zg Zf
def opA (o : Op) : Value := .agg #[.int .i64 o.d,.int .i64 o.k,.int .i64 o.v,.int .i64 o.w]
def opO (o : Op) : Obj := .cells #[.int .i64 o.d,.int .i64 o.k,.int .i64 o.v,.int .i64 o.w] 44
theorem Zjh (w : World) (o1 o2 : Obj) : ((w.alloc o1).drew.alloc o2).heap[w.heap.size + 1]? = some o2 := Kj w o1 o2
def Zdt (w W w1 : World) (tx p : Nat) (ex : Value) : Prop := w1.cell? ⟨tx,0,none⟩ = some (Pt p) ∧ w1.cell? ⟨p,1,none⟩ = some ex ∧ ∀ b o,w.heap.size ≤ b → W.heap[b]? = some o → w1.heap[b]? = some o
def Zp6 (w W : World) : Nat → Prop := fun b => w.heap.size ≤ b ∧ b < W.heap.size
theorem Zsg (o : Op) (e : Ent) (b : Bool) (c0 : w.cell? ⟨tx,0,none⟩ = some (Pt p)) (p1 : w.cell? ⟨p,1,none⟩ = some (Pt ex)) 
  (HG : Hid (∀ W,Zb No w W → Calls Yd5 180 #[Pt ex,.int .i64 o.k] W fun en w' => en = .returned (.tuple #[Yg e,.bool b]) ∧ Rc W w' ∧ Zdt w W w' tx p (Pt ex)))
  (HK : Hid (∀ W w1 w2 n1,Zb No w W → Rc W w1 → Zb (Zp6 w W) w1 w2 → w2.heap[w.heap.size]? = some (opO o) → w2.heap[n1]? = some (Z0 e) → w.heap.size < n1 → (n1 < W.heap.size ∨ w1.heap.size ≤ n1) → w.heap.size < W.heap.size → R1 n1 w2))
  (H1 : Hid (∀ nb w2,R1 nb w2 → tx ≠ nb ∧ w2.heap[nb]? = some (Z0 e) ∧ (∃ x7,w2.cell? ⟨tx,7,none⟩ = some x7) ∧ (∃ x8,w2.cell? ⟨tx,8,none⟩ = some x8) ∧ (∃ x10,w2.cell? ⟨tx,10,none⟩ = some x10) ∧ (∀ j,w2.frozen? ⟨tx,j,none⟩ = false) ∧ ∀ W',Sm (((w2.setCell ⟨tx,7,none⟩ (.int .i64 e.v)).setCell ⟨tx,8,none⟩ (.bool b)).setCell ⟨tx,10,none⟩ (.int .i64 e.n)) W' → R2 W')) :
  Calls Yd5 136 #[Pt tx,opA o] w fun r w' => r = .returned (.tuple #[]) ∧ R2 w' := by
 unfold opA
 unfold Yg at HG
 unfold Zdt at HG
 go_enter Tryz.func136,Tryz.ntmps136
 go_wp2
 have htx : tx < w.heap.size := Yd6 w _ c0
 have hpx : p < w.heap.size := Yd6 w _ p1
 have hxt : tx ≠ w.heap.size := Yd8 htx
 have hxt2 : w.heap.size ≠ tx := Yeh htx
 have hxp : p ≠ w.heap.size := Yd8 hpx
 have hxp2 : w.heap.size ≠ p := Yeh hpx
 have hyt : tx ≠ w.heap.size + 1 := by omega
 have hyt2 : w.heap.size + 1 ≠ tx := Ne.symm hyt
 have hyp : p ≠ w.heap.size + 1 := by omega
 have hyp2 : w.heap.size + 1 ≠ p := Ne.symm hyp
 have hyz : w.heap.size ≠ w.heap.size + 1 := by omega
 have hyz2 : w.heap.size + 1 ≠ w.heap.size := Ne.symm hyz
 go_region_held3 (fun w' => w'.cell? ⟨tx,0,none⟩ = some (Pt p) ∧ w'.cell? ⟨p,1,none⟩ = some (Pt ex) ∧ w'.cell? ⟨w.heap.size,1,none⟩ = some (.int .i64 o.k)) (go_keep) (first | (go_at_call 180; refine (HG.out _ (by (repeat (first | exact Yd9 _ _ | refine Yej ?_ | refine Yei ?_ _)))).mono ?_; rintro en w1 ⟨rfl,h1,k0,k1,h2⟩; have kq := h2 w.heap.size (.cells #[.int .i64 o.d,.int .i64 o.k,.int .i64 o.v,.int .i64 o.w] 44) (Yec _) (by first | exact Zh w _ | exact Zm (Zh w _)); have kb1 := Za (j:=1) kq rfl; have kb2 := Za (j:=2) kq rfl; have kb3 := Za (j:=3) kq rfl; have n5 : w.heap.size ≠ w1.heap.size := Yd8 (Yd6 w1 _ kb1); have n6 : w1.heap.size ≠ w.heap.size := Ne.symm n5; have kq' := Ydy kq; clear kq; have n1 : tx ≠ w1.heap.size := Yd8 (Yd6 w1 _ k0); have n2 : w1.heap.size ≠ tx := Ne.symm n1; have n3 : p ≠ w1.heap.size := Yd8 (Yd6 w1 _ k1); have n4 : w1.heap.size ≠ p := Ne.symm n3; (try (have hq := h2 (w.heap.size + 1) (.cells #[.int .i64 0,.int .i64 0,.int .i64 0,.int .i64 0] 115) (Yea _) (Zjh _ _ _); have hq' := Ydy hq; obtain ⟨y0,y1,y2,y3,g0,g1,g2,g3⟩ := Yh hq; clear hq)); have h1' := Ydy h1; clear h1 h2))
 have HR := Ydy (HK.out _ w1 (w1.alloc (Z0 e)) w1.heap.size (by (repeat (first | exact Yd9 _ _ | refine Yej ?_ | refine Yei ?_ _))) h1'.out ((Yd9 _ w1).alloc _) (Zm kq'.out) (Zh w1 _) (Yd6 w1 _ kb1) (.inr (Yec _)) (by simp [Yd7]))
 unfold Z0 at HR
 clear HK HG h1' kq' kb1 kb2 kb3 n5 n6 hyt hyt2 hyp hyp2 hyz hyz2 k0 k1 p1 c0 n1 n2 n3 n4 htx hpx hxt hxt2 hxp hxp2
 generalize w1.heap.size = nb at *
 generalize w1.alloc _ = w2 at *
 rotate_left
 have HR := Ydy (HK.out ((w.alloc (.cells #[.int .i64 o.d,.int .i64 o.k,.int .i64 o.v,.int .i64 o.w] 44)).drew.alloc (.cells #[.int .i64 0,.int .i64 0,.int .i64 0,.int .i64 0] 115)) w1 ((((w1.setCell ⟨w.heap.size + 1,0,none⟩ (.int .i64 e.k)).setCell ⟨w.heap.size + 1,1,none⟩ (.int .i64 e.v)).setCell ⟨w.heap.size + 1,2,none⟩ (.int .i64 e.w)).setCell ⟨w.heap.size + 1,3,none⟩ (.int .i64 e.n)) (w.heap.size + 1) (by (repeat (first | exact Yd9 _ _ | refine Yej ?_ | refine Yei ?_ _))) h1'.out ((((Yd9 _ w1).setCell (.inl ⟨Yea _,by simp [Yd7]⟩) _).setCell (.inl ⟨Yea _,by simp [Yd7]⟩) _).setCell (.inl ⟨Yea _,by simp [Yd7]⟩) _ |>.setCell (.inl ⟨Yea _,by simp [Yd7]⟩) _) (Z7 (Z7 (Z7 (Z7 kq'.out hyz 0 _) hyz 1 _) hyz 2 _) hyz 3 _) (Zj (Zj (Zj (Zj hq'.out 0 _) 1 _) 2 _) 3 _) (Yem _) (.inl (by simp [Yd7])) (by first | (simp [Yd7]; done) | (simp [Yd7]; omega)))
 clear HK HG h1' kq' kb1 kb2 kb3 n5 n6 hq' y0 y1 y2 y3 g0 g1 g2 g3 k0 k1 p1 c0 n1 n2 n3 n4 htx hpx hxt hxt2 hxp hxp2 hyt hyt2 hyp hyp2 hyz hyz2
 revert HR
 generalize ((((w1.setCell ⟨w.heap.size + 1,0,none⟩ (.int .i64 e.k)).setCell ⟨w.heap.size + 1,1,none⟩ (.int .i64 e.v)).setCell ⟨w.heap.size + 1,2,none⟩ (.int .i64 e.w)).setCell ⟨w.heap.size + 1,3,none⟩ (.int .i64 e.n)) = w2
 generalize w.heap.size + 1 = nb
 intro HR
 all_goals
  obtain ⟨hne,hb,⟨x7,t7⟩,⟨x8,t8⟩,⟨x10,t10⟩,tf,HQ⟩ := H1.out _ _ HR.out
  have HQ := Ydy HQ
  have hne2 := Ne.symm hne
  have a7 := tf 7
  have a8 := tf 8
  have a10 := tf 10
  obtain ⟨z0,z1,z2,z3,-⟩ := Yh hb
  clear HR H1 hb tf
  go_wp2
  go_region_law (fail)
  all_goals
   go_end0
   exact ⟨rfl,HQ.out _ ⟨rfl,rfl,rfl,rfl⟩⟩
theorem Zkc {wx : Nat} (o : Op) (e : Ent) (b : Bool) (c0 : w.cell? ⟨tx,0,none⟩ = some (Pt p)) (p1 : w.cell? ⟨p,1,none⟩ = some (Pt ex)) 
  (HG : Hid (∀ W,Zb No w W → Calls Yd5 183 #[Pt ex,.int .i64 o.k] W fun en w' => en = .returned (.tuple #[Yg e,.bool b]) ∧ Rc W w' ∧ Zdt w W w' tx p (Pt ex)))
  (HK : Hid (∀ W w1 w2 n1,Zb No w W → Rc W w1 → Zb (Zp6 w W) w1 w2 → w2.heap[w.heap.size]? = some (opO o) → w2.heap[n1]? = some (Z0 e) → w.heap.size < n1 → (n1 < W.heap.size ∨ w1.heap.size ≤ n1) → w.heap.size < W.heap.size → R1 n1 w2))
  (H1 : Hid (∀ nb w2,R1 nb w2 → tx ≠ nb ∧ w2.heap[nb]? = some (Z0 e) ∧ (∃ x7,w2.cell? ⟨tx,7,none⟩ = some x7) ∧ (∃ x8,w2.cell? ⟨tx,8,none⟩ = some x8) ∧ ∀ j,w2.frozen? ⟨tx,j,none⟩ = false))
  (H2 : Hid (∀ nb w2 W,R1 nb w2 → Sm ((w2.setCell ⟨tx,7,none⟩ (.int .i64 e.v)).setCell ⟨tx,8,none⟩ (.bool b)) W → W.cell? ⟨tx,0,none⟩ = some (Pt p) ∧ W.cell? ⟨p,4,none⟩ = some (Pt wx) ∧ W.cell? ⟨w.heap.size,1,none⟩ = some (.int .i64 o.k) ∧ W.cell? ⟨nb,2,none⟩ = some (.int .i64 e.w) ∧ W.cell? ⟨nb,3,none⟩ = some (.int .i64 e.n) ∧ (b = true → Calls Yd5 182 #[Pt wx,.agg #[.int .i64 4,.int .i64 e.n,.int .i64 o.k,.int .i64 e.w]] W fun en w' => en = .returned (.int .i64 0) ∧ R2 w') ∧ (b = false → Calls Yd5 184 #[Pt wx] W fun en w' => en = .returned (.int .i64 0) ∧ R2 w'))) :
  Calls Yd5 138 #[Pt tx,opA o] w fun r w' => r = .returned (.tuple #[]) ∧ R2 w' := by
 unfold opA
 unfold Yg at HG
 unfold Zdt at HG
 go_enter Tryz.func138,Tryz.ntmps138
 go_wp2
 have htx : tx < w.heap.size := Yd6 w _ c0
 have hpx : p < w.heap.size := Yd6 w _ p1
 have hxt : tx ≠ w.heap.size := Yd8 htx
 have hxt2 : w.heap.size ≠ tx := Yeh htx
 have hxp : p ≠ w.heap.size := Yd8 hpx
 have hxp2 : w.heap.size ≠ p := Yeh hpx
 have hyt : tx ≠ w.heap.size + 1 := by omega
 have hyt2 : w.heap.size + 1 ≠ tx := Ne.symm hyt
 have hyp : p ≠ w.heap.size + 1 := by omega
 have hyp2 : w.heap.size + 1 ≠ p := Ne.symm hyp
 have hyz : w.heap.size ≠ w.heap.size + 1 := by omega
 have hyz2 : w.heap.size + 1 ≠ w.heap.size := Ne.symm hyz
 go_region_held3 (fun w' => w'.cell? ⟨tx,0,none⟩ = some (Pt p) ∧ w'.cell? ⟨p,1,none⟩ = some (Pt ex) ∧ w'.cell? ⟨w.heap.size,1,none⟩ = some (.int .i64 o.k)) (go_keep) (first | (go_at_call 183; refine (HG.out _ (by (repeat (first | exact Yd9 _ _ | refine Yej ?_ | refine Yei ?_ _)))).mono ?_; rintro en w1 ⟨rfl,h1,k0,k1,h2⟩; have kq := h2 w.heap.size (.cells #[.int .i64 o.d,.int .i64 o.k,.int .i64 o.v,.int .i64 o.w] 44) (Yec _) (by first | exact Zh w _ | exact Zm (Zh w _)); have kb1 := Za (j:=1) kq rfl; have kb2 := Za (j:=2) kq rfl; have kb3 := Za (j:=3) kq rfl; have n5 : w.heap.size ≠ w1.heap.size := Yd8 (Yd6 w1 _ kb1); have n6 : w1.heap.size ≠ w.heap.size := Ne.symm n5; have kq' := Ydy kq; clear kq; have n1 : tx ≠ w1.heap.size := Yd8 (Yd6 w1 _ k0); have n2 : w1.heap.size ≠ tx := Ne.symm n1; have n3 : p ≠ w1.heap.size := Yd8 (Yd6 w1 _ k1); have n4 : w1.heap.size ≠ p := Ne.symm n3; (try (have hq := h2 (w.heap.size + 1) (.cells #[.int .i64 0,.int .i64 0,.int .i64 0,.int .i64 0] 115) (Yea _) (Zjh _ _ _); have hq' := Ydy hq; obtain ⟨y0,y1,y2,y3,g0,g1,g2,g3⟩ := Yh hq; clear hq)); have h1' := Ydy h1; clear h1 h2))
 have HR := Ydy (HK.out _ w1 (w1.alloc (Z0 e)) w1.heap.size (by (repeat (first | exact Yd9 _ _ | refine Yej ?_ | refine Yei ?_ _))) h1'.out ((Yd9 _ w1).alloc _) (Zm kq'.out) (Zh w1 _) (Yd6 w1 _ kb1) (.inr (Yec _)) (by simp [Yd7]))
 unfold Z0 at HR
 clear HK HG h1' kq' kb1 kb2 kb3 n5 n6 hyt hyt2 hyp hyp2 hyz hyz2 k0 k1 p1 c0 n1 n2 n3 n4 htx hpx hxt hxt2 hxp hxp2
 generalize w1.heap.size = nb at *
 generalize w1.alloc _ = w2 at *
 rotate_left
 have HR := Ydy (HK.out ((w.alloc (.cells #[.int .i64 o.d,.int .i64 o.k,.int .i64 o.v,.int .i64 o.w] 44)).drew.alloc (.cells #[.int .i64 0,.int .i64 0,.int .i64 0,.int .i64 0] 115)) w1 ((((w1.setCell ⟨w.heap.size + 1,0,none⟩ (.int .i64 e.k)).setCell ⟨w.heap.size + 1,1,none⟩ (.int .i64 e.v)).setCell ⟨w.heap.size + 1,2,none⟩ (.int .i64 e.w)).setCell ⟨w.heap.size + 1,3,none⟩ (.int .i64 e.n)) (w.heap.size + 1) (by (repeat (first | exact Yd9 _ _ | refine Yej ?_ | refine Yei ?_ _))) h1'.out ((((Yd9 _ w1).setCell (.inl ⟨Yea _,by simp [Yd7]⟩) _).setCell (.inl ⟨Yea _,by simp [Yd7]⟩) _).setCell (.inl ⟨Yea _,by simp [Yd7]⟩) _ |>.setCell (.inl ⟨Yea _,by simp [Yd7]⟩) _) (Z7 (Z7 (Z7 (Z7 kq'.out hyz 0 _) hyz 1 _) hyz 2 _) hyz 3 _) (Zj (Zj (Zj (Zj hq'.out 0 _) 1 _) 2 _) 3 _) (Yem _) (.inl (by simp [Yd7])) (by first | (simp [Yd7]; done) | (simp [Yd7]; omega)))
 clear HK HG h1' kq' kb1 kb2 kb3 n5 n6 hq' y0 y1 y2 y3 g0 g1 g2 g3 k0 k1 p1 c0 n1 n2 n3 n4 htx hpx hxt hxt2 hxp hxp2 hyt hyt2 hyp hyp2 hyz hyz2
 revert HR
 generalize ((((w1.setCell ⟨w.heap.size + 1,0,none⟩ (.int .i64 e.k)).setCell ⟨w.heap.size + 1,1,none⟩ (.int .i64 e.v)).setCell ⟨w.heap.size + 1,2,none⟩ (.int .i64 e.w)).setCell ⟨w.heap.size + 1,3,none⟩ (.int .i64 e.n)) = w2
 generalize w.heap.size + 1 = nb
 intro HR
 all_goals
  obtain ⟨hne,hb,⟨x7,t7⟩,⟨x8,t8⟩,tf⟩ := H1.out _ _ HR.out
  have H3 := Ydy (fun W => H2.out _ _ W HR.out)
  have hne2 := Ne.symm hne
  have a7 := tf 7
  have a8 := tf 8
  obtain ⟨z0,z1,z2,z3,-⟩ := Yh hb
  clear HR H1 H2 hb tf
  cases b
  ·obtain ⟨k0,k1,-,-,-,-,HC⟩ := H3.out _ (Sm.refl _)
   have HC2 := Ydy (HC (by simp))
   clear H3 HC
   go_wp2_with fail
   refine HC2.out.mono ?_
   rintro en w4 ⟨rfl,hq⟩
   go_wp2
   refine bodyPost_ret (results_none rfl _ _ _) rfl ?_
   exact ⟨rfl,hq⟩
  ·go_wp2
   refine Z4 14 (by kernel_rfl) (by kernel_rfl) ?_
   intro W4 hcW hfW hsW HW
   obtain ⟨k0,k1,k2,k3,k4,HC,-⟩ := H3.out W4 (by rw [← HW.out]; exact ⟨rfl,rfl,rfl,rfl⟩)
   have HC2 := Ydy (HC (by simp))
   clear hcW hfW hsW H3 HC
   simp only [Yee,Yeg,Yed,Yef]
   iterate 14 still_step
   refine wpStill_nil ?_
   go_wp2_with fail
   refine HC2.out.mono ?_
   rintro en w4 ⟨rfl,hq⟩
   go_wp2
   go_end0
   exact ⟨rfl,hq⟩
theorem Zsi {wx km : Nat} (o : Op) (e : Ent) (b : Bool) (c0 : w.cell? ⟨tx,0,none⟩ = some (Pt p)) (p1 : w.cell? ⟨p,1,none⟩ = some (Pt ex)) 
  (HG : Hid (∀ W,Zb No w W → Calls Yd5 181 #[Pt ex,.int .i64 o.k,.int .i64 o.v,.int .i64 o.w] W fun en w' => en = .returned (.tuple #[Yg e,.bool b]) ∧ Rc W w' ∧ Zdt w W w' tx p (Pt ex)))
  (HK : Hid (∀ W w1 w2 n1,Zb No w W → Rc W w1 → Zb (Zp6 w W) w1 w2 → w2.heap[w.heap.size]? = some (opO o) → w2.heap[n1]? = some (Z0 e) → w.heap.size < n1 → (n1 < W.heap.size ∨ w1.heap.size ≤ n1) → w.heap.size < W.heap.size → R1 n1 w2))
  (H1 : Hid (∀ nb w2,R1 nb w2 → w2.heap[w.heap.size]? = some (opO o) ∧ w2.heap[nb]? = some (Z0 e)))
  (H2 : Hid (∀ nb w2 W,b = true → R1 nb w2 → Sm (w2.alloc (.cells #[.int .i64 3,.int .i64 e.n,.int .i64 o.k,.int .i64 o.w] 93)) W → W.cell? ⟨tx,0,none⟩ = some (Pt p) ∧ W.cell? ⟨p,4,none⟩ = some (Pt wx) ∧ Calls Yd5 182 #[Pt wx,.agg #[.int .i64 3,.int .i64 e.n,.int .i64 o.k,.int .i64 o.w]] W fun en w' => en = .returned (.int .i64 0) ∧ R2 w'))
  (H3 : Hid (∀ nb w2 W,b = false → R1 nb w2 → Sm (w2.alloc (.cells #[.int .i64 1,.int .i64 e.n,.int .i64 o.k,.int .i64 o.w] 93)) W → W.cell? ⟨tx,0,none⟩ = some (Pt p) ∧ W.cell? ⟨p,4,none⟩ = some (Pt wx) ∧ W.cell? ⟨p,6,none⟩ = some (.map (some km)) ∧ I64 e.n ∧ ∃ f n,Zs W km f n ∧ n < 1000000 ∧ ∀ W4,Zs W4 km (upd f e.n (some (.int .i64 o.k))) (if (f e.n).isSome then n else n + 1) → W.mapTurned W4 km → ∀ W,Sm W4 W → W.cell? ⟨tx,0,none⟩ = some (Pt p) ∧ W.cell? ⟨p,4,none⟩ = some (Pt wx) ∧ W.heap[w2.heap.size]? = some (.cells #[.int .i64 1,.int .i64 e.n,.int .i64 o.k,.int .i64 o.w] 93) ∧ Calls Yd5 182 #[Pt wx,.agg #[.int .i64 1,.int .i64 e.n,.int .i64 o.k,.int .i64 o.w]] W fun en w' => en = .returned (.int .i64 0) ∧ R2 w')) :
  Calls Yd5 137 #[Pt tx,opA o] w fun r w' => r = .returned (.tuple #[]) ∧ R2 w' := by
 unfold opA
 unfold Yg at HG
 unfold Zdt at HG
 go_enter Tryz.func137,Tryz.ntmps137
 go_wp2
 have htx : tx < w.heap.size := Yd6 w _ c0
 have hpx : p < w.heap.size := Yd6 w _ p1
 have hxt : tx ≠ w.heap.size := Yd8 htx
 have hxt2 : w.heap.size ≠ tx := Yeh htx
 have hxp : p ≠ w.heap.size := Yd8 hpx
 have hxp2 : w.heap.size ≠ p := Yeh hpx
 have hyt : tx ≠ w.heap.size + 1 := by omega
 have hyt2 : w.heap.size + 1 ≠ tx := Ne.symm hyt
 have hyp : p ≠ w.heap.size + 1 := by omega
 have hyp2 : w.heap.size + 1 ≠ p := Ne.symm hyp
 have hyz : w.heap.size ≠ w.heap.size + 1 := by omega
 have hyz2 : w.heap.size + 1 ≠ w.heap.size := Ne.symm hyz
 go_region_held3 (fun w' => w'.cell? ⟨tx,0,none⟩ = some (Pt p) ∧ w'.cell? ⟨p,1,none⟩ = some (Pt ex) ∧ w'.cell? ⟨w.heap.size,1,none⟩ = some (.int .i64 o.k) ∧ w'.cell? ⟨w.heap.size,2,none⟩ = some (.int .i64 o.v) ∧ w'.cell? ⟨w.heap.size,3,none⟩ = some (.int .i64 o.w)) (go_keep) (first | (go_at_call 181; refine (HG.out _ (by (repeat (first | exact Yd9 _ _ | refine Yej ?_ | refine Yei ?_ _)))).mono ?_; rintro en w1 ⟨rfl,h1,k0,k1,h2⟩; have kq := h2 w.heap.size (.cells #[.int .i64 o.d,.int .i64 o.k,.int .i64 o.v,.int .i64 o.w] 44) (Yec _) (by first | exact Zh w _ | exact Zm (Zh w _)); have kb1 := Za (j:=1) kq rfl; have kb2 := Za (j:=2) kq rfl; have kb3 := Za (j:=3) kq rfl; have n5 : w.heap.size ≠ w1.heap.size := Yd8 (Yd6 w1 _ kb1); have n6 : w1.heap.size ≠ w.heap.size := Ne.symm n5; have kq' := Ydy kq; clear kq; have n1 : tx ≠ w1.heap.size := Yd8 (Yd6 w1 _ k0); have n2 : w1.heap.size ≠ tx := Ne.symm n1; have n3 : p ≠ w1.heap.size := Yd8 (Yd6 w1 _ k1); have n4 : w1.heap.size ≠ p := Ne.symm n3; (try (have hq := h2 (w.heap.size + 1) (.cells #[.int .i64 0,.int .i64 0,.int .i64 0,.int .i64 0] 115) (Yea _) (Zjh _ _ _); have hq' := Ydy hq; obtain ⟨y0,y1,y2,y3,g0,g1,g2,g3⟩ := Yh hq; clear hq)); have h1' := Ydy h1; clear h1 h2))
 have HR := Ydy (HK.out _ w1 (w1.alloc (Z0 e)) w1.heap.size (by (repeat (first | exact Yd9 _ _ | refine Yej ?_ | refine Yei ?_ _))) h1'.out ((Yd9 _ w1).alloc _) (Zm kq'.out) (Zh w1 _) (Yd6 w1 _ kb1) (.inr (Yec _)) (by simp [Yd7]))
 unfold Z0 at HR
 clear HK HG h1' kq' kb1 kb2 kb3 n5 n6 hyt hyt2 hyp hyp2 hyz hyz2 k0 k1 p1 c0 n1 n2 n3 n4 htx hpx hxt hxt2 hxp hxp2
 generalize w1.heap.size = nb at *
 generalize w1.alloc _ = w2 at *
 rotate_left
 have HR := Ydy (HK.out ((w.alloc (.cells #[.int .i64 o.d,.int .i64 o.k,.int .i64 o.v,.int .i64 o.w] 44)).drew.alloc (.cells #[.int .i64 0,.int .i64 0,.int .i64 0,.int .i64 0] 115)) w1 ((((w1.setCell ⟨w.heap.size + 1,0,none⟩ (.int .i64 e.k)).setCell ⟨w.heap.size + 1,1,none⟩ (.int .i64 e.v)).setCell ⟨w.heap.size + 1,2,none⟩ (.int .i64 e.w)).setCell ⟨w.heap.size + 1,3,none⟩ (.int .i64 e.n)) (w.heap.size + 1) (by (repeat (first | exact Yd9 _ _ | refine Yej ?_ | refine Yei ?_ _))) h1'.out ((((Yd9 _ w1).setCell (.inl ⟨Yea _,by simp [Yd7]⟩) _).setCell (.inl ⟨Yea _,by simp [Yd7]⟩) _).setCell (.inl ⟨Yea _,by simp [Yd7]⟩) _ |>.setCell (.inl ⟨Yea _,by simp [Yd7]⟩) _) (Z7 (Z7 (Z7 (Z7 kq'.out hyz 0 _) hyz 1 _) hyz 2 _) hyz 3 _) (Zj (Zj (Zj (Zj hq'.out 0 _) 1 _) 2 _) 3 _) (Yem _) (.inl (by simp [Yd7])) (by first | (simp [Yd7]; done) | (simp [Yd7]; omega)))
 clear HK HG h1' kq' kb1 kb2 kb3 n5 n6 hq' y0 y1 y2 y3 g0 g1 g2 g3 k0 k1 p1 c0 n1 n2 n3 n4 htx hpx hxt hxt2 hxp hxp2 hyt hyt2 hyp hyp2 hyz hyz2
 revert HR
 generalize ((((w1.setCell ⟨w.heap.size + 1,0,none⟩ (.int .i64 e.k)).setCell ⟨w.heap.size + 1,1,none⟩ (.int .i64 e.v)).setCell ⟨w.heap.size + 1,2,none⟩ (.int .i64 e.w)).setCell ⟨w.heap.size + 1,3,none⟩ (.int .i64 e.n)) = w2
 generalize w.heap.size + 1 = nb
 intro HR
 all_goals
  obtain ⟨ha,hb⟩ := H1.out _ _ HR.out
  obtain ⟨z0,z1,z2,z3,-⟩ := Yh hb
  obtain ⟨v0,v1,v2,v3,-⟩ := Yh ha
  cases b
  ·have H4 := Ydy (fun W => H3.out _ _ W rfl HR.out)
   have hev := Zh w2 (.cells #[.int .i64 3,.int .i64 e.n,.int .i64 o.k,.int .i64 o.w] 93)
   have hnb := Ze hb
   have hna := Ze ha
   have s1 : nb ≠ w2.heap.size := Yd8 hnb
   have s2 : w.heap.size ≠ w2.heap.size := Yd8 hna
   have s1' := Ne.symm s1
   have s2' := Ne.symm s2
   clear HR H1 H2 H3 ha hb hnb hna
   go_wp2
   have u0 := Zd (S:=No) z3 ((Yd9 No w2).alloc (.cells #[.int .i64 1,.int .i64 e.n,.int .i64 o.k,.int .i64 o.w] 93)) (fun h => h)
   have u1 := Zd (S:=No) v1 ((Yd9 No w2).alloc (.cells #[.int .i64 1,.int .i64 e.n,.int .i64 o.k,.int .i64 o.w] 93)) (fun h => h)
   clear z0 z1 z2 z3 v0 v1 v2 v3 hev s1 s2 s1' s2'
   revert H4 u0 u1
   generalize w2.heap.size = n2
   generalize w2.alloc (.cells #[.int .i64 1,.int .i64 e.n,.int .i64 o.k,.int .i64 o.w] 93) = w5
   intro H4 u0 u1
   refine Z4 11 (by kernel_rfl) (by kernel_rfl) ?_
   intro W hcW hfW hsW HW
   obtain ⟨k0,k1,k2,hi,f,n,hm,hn,HC⟩ := H4.out W (by rw [← HW.out]; exact ⟨rfl,rfl,rfl,rfl⟩)
   have HM := Ydy hm
   have HC1 := Ydy HC
   clear HC
   have u0' := (hcW _).trans u0
   have u1' := (hcW _).trans u1
   clear hcW hfW hsW H4 hm HW u0 u1
   simp only [Yee,Yeg,Yed,Yef]
   iterate 11 still_step
   refine wpStill_nil ?_
   go_wp2_with (refine Y0 (by rfl) (t:=60) (by rfl) (e:=3) Tryz.underlying60 (b:=km) (by rfl) HM.out hn (k:=e.n) (val:=.int .i64 o.k) (by rfl) (by rfl) hi ?_; intro w7 hm htt; have HC2 := Ydy (HC1.out w7 hm htt); clear hm htt)
   refine Z4 8 (by kernel_rfl) (by kernel_rfl) ?_
   intro W8 hcW hfW hsW HW
   obtain ⟨q0,q1,q2,HD⟩ := HC2.out W8 (by rw [← HW.out]; exact ⟨rfl,rfl,rfl,rfl⟩)
   have HD1 := Ydy HD
   clear HD
   obtain ⟨r0,r1,r2,r3,-⟩ := Yh q2
   clear hcW hfW hsW HC2 HC1 HW q2 k0 k1 k2 u0' u1'
   simp only [Yee,Yeg,Yed,Yef]
   iterate 8 still_step
   refine wpStill_nil ?_
   go_wp2_with fail
   refine HD1.out.mono ?_
   rintro en w4 ⟨rfl,hq⟩
   go_wp2
   go_end0
   exact ⟨rfl,hq⟩
  ·have H4 := Ydy (fun W => H2.out _ _ W rfl HR.out)
   have hev := Zh w2 (.cells #[.int .i64 3,.int .i64 e.n,.int .i64 o.k,.int .i64 o.w] 93)
   clear HR H1 H2 H3 ha hb
   go_wp2
   obtain ⟨r0,r1,r2,r3,-⟩ := Yh hev
   clear z0 z1 z2 z3 v0 v1 v2 v3 hev
   revert H4 r0 r1 r2 r3
   generalize w2.heap.size = n2
   generalize (w2.alloc (.cells #[.int .i64 3,.int .i64 e.n,.int .i64 o.k,.int .i64 o.w] 93)) = w5
   intro H4 r0 r1 r2 r3
   refine Z4 8 (by kernel_rfl) (by kernel_rfl) ?_
   intro W hcW hfW hsW HW
   obtain ⟨k0,k1,HC⟩ := H4.out W (by rw [← HW.out]; exact ⟨rfl,rfl,rfl,rfl⟩)
   have HC1 := Ydy HC
   clear HC
   have r0' := (hcW _).trans r0
   have r1' := (hcW _).trans r1
   have r2' := (hcW _).trans r2
   have r3' := (hcW _).trans r3
   clear hcW hfW hsW H4 HW r0 r1 r2 r3
   simp only [Yee,Yeg,Yed,Yef]
   iterate 8 still_step
   refine wpStill_nil ?_
   go_wp2_with fail
   refine HC1.out.mono ?_
   rintro en w4 ⟨rfl,hq⟩
   go_wp2
   go_end0
   exact ⟨rfl,hq⟩
end
end Go.Proofs.YtdkhbegheognnaaGreatDoor.W

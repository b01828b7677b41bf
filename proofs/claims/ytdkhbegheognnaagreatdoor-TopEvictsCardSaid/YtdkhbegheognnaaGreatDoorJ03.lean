/- Part of the proof of TopEvicts, joined by a program of the session: Fi Rg Tb Tbh Tbf Tbs Tbg. -/
import Derived.Test.YtdkhbegheognnaaGreatDoorJ02
import Derived.Test.YtdkhbegheognnaaGreatDoorJ01
import Derived.Laws.BitsLemmas
import Derived.Deep.RegionWith
import Derived.Deep.LoopGhost
namespace Go.Proofs.YtdkhbegheognnaaGreatDoor.W
open Go.RowKit Go.Maps
open _root_.Go.Proofs.Tryz renaming prog → Ydz, ntmps224 → Yej, func224 → Yen
open _root_.List renaming mem_cons_self → Yd0, getElem?_set → Yd1, replicate → Yd2, mem_append_right → Yd3, getElem?_eq_none → Yd6, getElem?_eq_getElem → Yd8, nodup_append → Yea, map_append → Yed, mem_append_left → Yee, mem_cons_of_mem → Yef, mem_map → Yeg, length_append → Yek, append_assoc → Yeo, getElem?_map → Yep
open Ext renaming refl → Yd4
open IntWalk renaming i64_in → Yd5
open _root_.Nat renaming pow_le_pow_right → Yd7, lt_or_ge → Yd9, le_refl → Yeb, sub_mod_eq_zero_of_mod_eq → Yeh, mod_eq_of_lt → Yei, le_trans → Yel, one_le_two_pow → Yem
open Zb renaming refl → Yec
set_option maxHeartbeats 4000000
set_option maxRecDepth 100000
variable {own own' : Nat → Nat}
variable {w w' : World}
variable {x lb N b : Nat}
variable {f : Fi}
variable {S : Nat → Prop}
variable {seed key L mx : Int}
variable {s' : Sk}
variable {r : Y8}
variable {ent : Int → Option Ent}
variable {a0 a : Addr}
variable {p : Bool × Nat}
variable {v0 v1 v2 v3 : Value}
variable {ty : TypeId}
section
attribute [local go_sem] World.setCell_drew Zg Zf
abbrev Pt (b : Nat) : Value := .pointer (some ⟨b,0,none⟩)
theorem Zwe (seed key : Int) (s : Sk) : ∃ p : List (List Int) × Bool,K7 seed key s = (if p.2 then (if 10 * (s.width : Int) ≤ s.samples + 1 then ({ s with rows := p.1.map (fun r => r.map Vt),samples := (s.samples + 1) / 2 },true) else ({ s with rows := p.1,samples := s.samples + 1 },false)) else ({ s with rows := p.1 },false)) := ⟨Jo (Yf seed key) s.width s.rows 4,rfl⟩
theorem Zwf (seed key : Int) (s : Sk) (h : s.samples < 10 * (s.width : Int)) (h0 : 0 ≤ s.samples) : (K7 seed key s).1.samples < 10 * ((K7 seed key s).1.width : Int) := by
 obtain ⟨p,e⟩ := Zwe seed key s
 rw [e]
 by_cases h1 : p.2 = true
 ·rw [if_pos h1]
  by_cases h2 : 10 * (s.width : Int) ≤ s.samples + 1
  ·rw [if_pos h2]; show (s.samples + 1) / 2 < 10 * (s.width : Int); omega
  ·rw [if_neg h2]; show s.samples + 1 < 10 * (s.width : Int); omega
 ·rw [if_neg h1]; exact h
structure Zgb where
 cb : Nat
 db : Nat
 sb : Nat
 rb : Nat → Nat
 dd : Nat
 wb : Nat
structure Za7 (own : Nat → Nat) (w : World) (x : Nat) (l : Zgb) (f : Fi) : Prop where
 ox : own x = 21
 oc : own l.cb = 22
 od : own l.db = 23
 block : ∃ ages : Int,w.heap[x]? = some (.cells #[Pt l.cb,Pt l.db,.int .i64 ages] 149 (0,0))
 cblock : w.heap[l.cb]? = some (.cells #[Pt l.sb] 142 (0,0))
 dblock : w.heap[l.db]? = some (.cells #[Pt l.dd] 147 (0,0))
 sk : Q9 own w l.sb l.rb f.seed f.sk
 smp : f.sk.samples < 10 * (f.sk.width : Int)
 door : Xs own w l.dd l.wb f.seed f.dw
def FiL (own : Nat → Nat) : Nat → Prop := fun b => (21 ≤ own b ∧ own b < 29) ∨ (37 ≤ own b ∧ own b < 39)
theorem Za7.kept {l : Zgb} (h : Za7 own w x l f) (he : Ext w own own') (ho : Zb S w w') (hS : ∀ b,b < w.heap.size → FiL own b → ¬ S b) : Za7 own' w' x l f := by
 obtain ⟨ages,hb⟩ := h.block
 have b1 := Ze hb
 have b2 := Ze h.cblock
 have b3 := Ze h.dblock
 have o1 := h.ox
 have o2 := h.oc
 have o3 := h.od
 exact ⟨(he _ b1).trans h.ox,(he _ b2).trans h.oc,(he _ b3).trans h.od,⟨ages,ho.kept hb (hS _ b1 (.inl ⟨by omega,by omega⟩))⟩,ho.kept h.cblock (hS _ b2 (.inl ⟨by omega,by omega⟩)),ho.kept h.dblock (hS _ b3 (.inl ⟨by omega,by omega⟩)),h.sk.kept he ho (fun b hb h1 h2 => hS b hb (.inl ⟨by omega,by omega⟩)),h.smp,h.door.kept he ho (fun b hb h1 h2 => hS b hb (.inr ⟨h1,h2⟩))⟩
theorem Zil {l : Zgb} (h : Za7 own w x l f) (key : Int) :
  Calls Ydz 196 #[Pt x,.int .i64 key] w fun e w' => e = .returned (.int .i64 (Zbg f key)) ∧ Zb No w w' := by
 obtain ⟨ages,hb⟩ := h.block
 have c0 := Za (j:=0) hb rfl
 have c1 := Za (j:=1) hb rfl
 have d0 := Za (j:=0) h.cblock rfl
 have e0 := Za (j:=0) h.dblock rfl
 have C := Ydy (Zm4 h.sk key)
 have D := Ydy (fun w1 (ho : Zb No w w1) => Zxx (h.door.kept (Yd4 w own) ho (fun _ _ _ _ h => h)) key)
 have K := Ydy (fun w1 (ho : Zb No w w1) => (⟨Zd c1 ho (fun h => h),Zd e0 ho (fun h => h)⟩ : w1.cell? ⟨x,1,none⟩ = some (Pt l.db) ∧ w1.cell? ⟨l.db,0,none⟩ = some (Pt l.dd)))
 have HF : Hid (Zbg f key = if Qa f.seed key f.dw then wrap64 (Zbn f.seed key f.sk + 1) else Zbn f.seed key f.sk) := Ydy rfl
 generalize Zbg f key = res at *
 generalize Zbn f.seed key f.sk = cnt at *
 generalize Qa f.seed key f.dw = bb at *
 clear h hb
 cases bb
 all_goals
  go_enter Tryz.func196,Tryz.ntmps196
  go_wp2_with fail
  refine (C.out).mono ?_
  rintro e w1 ⟨rfl,ho⟩
  obtain ⟨k1,k2⟩ := K.out w1 ho
  have HO := Ydy ho
  clear ho c0 c1 d0 e0
  go_wp2_with fail
  refine (D.out _ HO.out).mono ?_
  rintro e w2 ⟨rfl,ho2⟩
  have HO2 := Ydy ho2
  clear ho2
  go_wp2
  go_ret
  exact ⟨by rw [HF.out]; simp,HO.out.trans HO2.out⟩
theorem Zmz {l : Zgb} (h : Za7 own w x l f) (a b : Int) :
  Calls Ydz 162 #[Pt x,.int .i64 a,.int .i64 b] w fun e w' => e = .returned (.bool (Za9 f a b)) ∧ Zb No w w' := by
 have A := Ydy (Zil h a)
 have B := Ydy (fun w1 (ho : Zb No w w1) => Zil (h.kept (Yd4 w own) ho (fun _ _ _ h => h)) b)
 have HB : Hid (Za9 f a b = decide (Zbg f b < Zbg f a)) := Ydy rfl
 generalize Zbg f a = oa at *
 generalize Zbg f b = ob at *
 generalize Za9 f a b = res at *
 clear h
 go_enter Tryz.func162,Tryz.ntmps162
 go_wp2_with fail
 refine (A.out).mono ?_
 rintro e w1 ⟨rfl,ho⟩
 have HO := Ydy ho
 clear ho
 go_wp2_with fail
 refine (B.out _ HO.out).mono ?_
 rintro e w2 ⟨rfl,ho2⟩
 have HO2 := Ydy ho2
 clear ho2
 go_wp2
 go_ret
 exact ⟨by rw [HB.out]; rfl,HO.out.trans HO2.out⟩
theorem Zvn {α β : Type} (p : α × β) : ∃ a b,p = (a,b) := ⟨p.1,p.2,rfl⟩
theorem Zi7 {α : Type} (p : α) : ∃ a,p = a := ⟨p,rfl⟩
def Ybu (own : Nat → Nat) (w : World) (x : Nat) (rb : Nat → Nat) (seed : Int) (s' : Sk) (ag : Bool) (e : Ending) (w' : World) : Prop :=
 ∃ more,e = .returned (.tuple #[.bool more,.bool ag]) ∧ Q9 own w' x rb seed s' ∧ Zb (SkL own) w w'
theorem Ztd {rb : Nat → Nat} {s : Sk} (h : Q9 own w x rb seed s) (hlt : s.samples < 10 * (s.width : Int)) (key : Int) {ag : Bool} (hq : K7 seed key s = (s',ag)) :
  Calls Ydz 102 #[.pointer (some ⟨x,0,none⟩),.int .i64 key] w (Ybu own w x rb seed s' ag) := by
 refine (Zxb h hlt key).mono ?_
 rintro e w' ⟨more,h1,h2,h3⟩
 rw [hq] at h1 h2
 exact ⟨more,h1,h2,h3⟩
theorem Zr5 {s : Sk} {ag : Bool} (hq : K7 seed key s = (s',ag)) (h : s.samples < 10 * (s.width : Int)) (h0 : 0 ≤ s.samples) : s'.samples < 10 * (s'.width : Int) := by
 have := Zwf seed key s h h0
 rw [hq] at this
 exact this
def Yb4 (own : Nat → Nat) (w : World) (x wb : Nat) (seed : Int) (b : Bool) (dw : List Int) (e : Ending) (w' : World) : Prop :=
 e = .returned (.bool b) ∧ Xs own w' x wb seed dw ∧ Zb (DoL own) w w'
theorem Zrr {wb : Nat} {dw dw' : List Int} (h : Xs own w x wb seed dw) (key : Int) (hq : Ke seed key dw = dw') :
  Calls Ydz 101 #[.pointer (some ⟨x,0,none⟩),.int .i64 key] w (Yb4 own w x wb seed (Qa seed key dw) dw') := by
 refine (Zvt h key).mono ?_
 rintro e w' ⟨h1,h2,h3⟩
 rw [hq] at h2
 exact ⟨h1,h2,h3⟩
theorem Zuf (h : Qa f.seed key f.dw = false) : Kf f key = { f with dw := Ke f.seed key f.dw } := by
 unfold Kf
 rw [if_neg (by rw [h]; decide)]
theorem Zk2 (f : Fi) (key : Int) : Kf f key = if Qa f.seed key f.dw = true then ⟨f.seed,(K7 f.seed key f.sk).1,if (K7 f.seed key f.sk).2 = true then f.dw.map (fun _ => 0) else Ke f.seed key f.dw⟩ else { f with dw := Ke f.seed key f.dw } := rfl
theorem Zqw (h : Qa f.seed key f.dw = true) (h2 : K7 f.seed key f.sk = (s',false)) : Kf f key = ⟨f.seed,s',Ke f.seed key f.dw⟩ := by
 rw [Zk2,if_pos h,h2,if_neg (by simp)]
theorem Zqv (h : Qa f.seed key f.dw = true) (h2 : K7 f.seed key f.sk = (s',true)) : Kf f key = ⟨f.seed,s',(Ke f.seed key f.dw).map (fun _ => 0)⟩ := by
 rw [Zk2,if_pos h,h2,if_pos rfl]
 congr 1
 rw [Zgx,Zgx]
 simp [Ke,J3]
def Zw7 (own : Nat → Nat) (w : World) (x : Nat) (l : Zgb) (f : Fi) (key : Int) (e : Ending) (w' : World) : Prop :=
 e = .returned (.tuple #[]) ∧ Za7 own w' x l (Kf f key) ∧ Zb (FiL own) w w'
theorem Zg7 {l : Zgb} (h : Za7 own w x l f) (key : Int) :
  Calls Ydz 62 #[Pt x,.int .i64 key] w (Zw7 own w x l f key) := by
 obtain ⟨ages,hb⟩ := h.block
 have o1 := h.ox
 have o2 := h.oc
 have o3 := h.od
 have b1 := Ze hb
 have hD : Hid (∀ b,DoL own b → FiL own b) := Ydy (fun b h => .inr h)
 have hS : Hid (∀ b,SkL own b → FiL own b) := Ydy (fun b h => .inl ⟨by have := h.1; omega,h.2⟩)
 have c0 := Za (j:=0) hb rfl
 have c1 := Za (j:=1) hb rfl
 have d0 := Za (j:=0) h.cblock rfl
 have e0 := Za (j:=0) h.dblock rfl
 have HQ : Hid (∀ e w',(e = .returned (.tuple #[]) ∧ Za7 own w' x l (Kf f key) ∧ Zb (FiL own) w w') → Zw7 own w x l f key e w') := Ydy (fun _ _ h => h)
 have H := Ydy h
 have HB := Ydy hb
 obtain ⟨s',ag,hsk⟩ := Zvn (K7 f.seed key f.sk)
 have hlt := Ydy (Zr5 hsk h.smp h.sk.smp.1)
 have HSK := Ydy hsk
 clear hsk
 obtain ⟨dw2,hdw⟩ := Zi7 (Ke f.seed key f.dw)
 have P := Ydy (Zrr h.door key hdw)
 have HDW := Ydy hdw
 clear hdw
 have hx : x ≠ l.cb ∧ x ≠ l.db := ⟨fun e => by rw [← e] at o2; omega,fun e => by rw [← e] at o3; omega⟩
 clear h hb
 generalize hdo : Qa f.seed key f.dw = bb at *
 have HDO := Ydy hdo
 clear hdo
 cases bb
 ·go_enter Tryz.func62,Tryz.ntmps62
  go_wp2_with fail
  refine (P.out).mono ?_
  rintro e w1 ⟨rfl,hd,ho⟩
  have HD1 := Ydy hd
  have HO := Ydy ho
  clear hd ho
  go_wp2
  go_end0
  refine HQ.out _ _ ⟨rfl,?_,HO.out.mono (fun b _ => hD.out b)⟩
  rw [Zuf HDO.out,HDW.out]
  have ho := HO.out
  have h := H.out
  exact ⟨h.ox,h.oc,h.od,⟨ages,ho.kept HB.out (fun e => by have := e.1; omega)⟩,ho.kept h.cblock (fun e => by have := e.1; omega),ho.kept h.dblock (fun e => by have := e.1; omega),h.sk.kept (Yd4 _ _) ho (fun b _ h1 h2 e => by have := e.1; omega),h.smp,HD1.out⟩
 ·go_enter Tryz.func62,Tryz.ntmps62
  go_wp2_with fail
  refine (P.out).mono ?_
  rintro e w1 ⟨rfl,hd,ho⟩
  have c0 := Zd c0 ho (fun e => by have := e.1; simp only at this; omega)
  have c1 := Zd c1 ho (fun e => by have := e.1; simp only at this; omega)
  have d0 := Zd d0 ho (fun e => by have := e.1; simp only at this; omega)
  have e0 := Zd e0 ho (fun e => by have := e.1; simp only at this; omega)
  have A := Ydy (Ztd (H.out.sk.kept (Yd4 _ _) ho (fun b _ h1 h2 e => by have := e.1; omega)) H.out.smp key HSK.out)
  have HD1 := Ydy hd
  have HO := Ydy ho
  clear hd ho
  go_wp2_with fail
  refine (A.out).mono ?_
  rintro e w2 ⟨more,rfl,hs,ho2⟩
  have c0 := Zd c0 ho2 (fun e => by have := e.1; simp only at this; omega)
  have c1 := Zd c1 ho2 (fun e => by have := e.1; simp only at this; omega)
  have d0 := Zd d0 ho2 (fun e => by have := e.1; simp only at this; omega)
  have e0 := Zd e0 ho2 (fun e => by have := e.1; simp only at this; omega)
  have C := Ydy (Zm2 (HD1.out.kept (Yd4 _ _) ho2 (fun b _ h1 h2 e => by have := e.2; omega)))
  have HS2 := Ydy hs
  have HO2 := Ydy ho2
  clear hs ho2
  cases ag
  ·go_wp2
   go_end0
   refine HQ.out _ _ ⟨rfl,?_,(HO.out.mono (fun b _ => hD.out b)).trans (HO2.out.mono (fun b _ => hS.out b))⟩
   rw [Zqw HDO.out HSK.out,HDW.out]
   have ho := (HO.out.mono (fun b _ => hD.out b)).trans (HO2.out.mono (fun b _ => hS.out b))
   have h := H.out
   have hn : ∀ b,own b = 21 ∨ own b = 22 ∨ own b = 23 → ∀ o,w.heap[b]? = some o → w2.heap[b]? = some o := fun b hb o ho => HO2.out.kept (HO.out.kept ho (fun e => by have := e.1; omega)) (fun e => by have := e.1; omega)
   exact ⟨h.ox,h.oc,h.od,⟨ages,hn _ (.inl h.ox) _ HB.out⟩,hn _ (.inr (.inl h.oc)) _ h.cblock,hn _ (.inr (.inr h.od)) _ h.dblock,HS2.out,hlt.out,HD1.out.kept (Yd4 _ _) HO2.out (fun b _ h1 h2 e => by have := e.2; omega)⟩
  ·have b2 : w2.heap[x]? = some (.cells #[Pt l.cb,Pt l.db,.int .i64 ages] 149 (0,0)) := HO2.out.kept (HO.out.kept HB.out (fun e => by have := e.1; omega)) (fun e => by have := e.1; omega)
   have HB2 := Ydy b2
   clear b2
   go_wp2_with fail
   refine (C.out).mono ?_
   rintro e w3 ⟨rfl,hd3,ho3⟩
   have b3 : w3.heap[x]? = some (.cells #[Pt l.cb,Pt l.db,.int .i64 ages] 149 (0,0)) := ho3.kept HB2.out (fun e => by have := e.1; omega)
   have g2 := Za (j:=2) b3 rfl
   have f2 := Zc b3 2
   have HB3 := Ydy b3
   have HD3 := Ydy hd3
   have HO3 := Ydy ho3
   clear b3 hd3 ho3
   go_wp2
   go_end0
   generalize wrap64 (ages + 1) = ages2
   have hxF : FiL own x := .inl ⟨by omega,by omega⟩
   refine HQ.out _ _ ⟨rfl,?_,(((HO.out.mono (fun b _ => hD.out b)).trans (HO2.out.mono (fun b _ => hS.out b))).trans (HO3.out.mono (fun b _ => hD.out b))).setCell (p:=⟨x,2,none⟩) (.inl hxF) _⟩
   rw [Zqv HDO.out HSK.out,HDW.out]
   have h := H.out
   have hn : ∀ b,own b = 22 ∨ own b = 23 → ∀ o,w.heap[b]? = some o → (w3.setCell ⟨x,2,none⟩ (.int .i64 ages2)).heap[b]? = some o := fun b hb o ho => Z7 (HO3.out.kept (HO2.out.kept (HO.out.kept ho (fun e => by have := e.1; omega)) (fun e => by have := e.1; omega)) (fun e => by have := e.1; omega)) (fun e => by rw [e] at hb; omega) _ _
   have hox : Zb (fun b => b = x) w3 (w3.setCell ⟨x,2,none⟩ (.int .i64 ages2)) := Zb.setCell (S:=fun b => b = x) (Yec _ _) (p:=⟨x,2,none⟩) (.inl rfl) _
   exact ⟨h.ox,h.oc,h.od,⟨_,Zj HB3.out 2 _⟩,hn _ (.inl h.oc) _ h.cblock,hn _ (.inr h.od) _ h.dblock,(HS2.out.kept (Yd4 _ _) HO3.out (fun b _ h1 h2 e => by have := e.1; omega)).kept (Yd4 _ _) hox (fun b _ h1 h2 e => by rw [e] at h1; omega),hlt.out,HD3.out.kept (Yd4 _ _) hox (fun b _ h1 h2 e => by rw [e] at h1; omega)⟩
theorem Zsm {n : Int} (h : w.cell? ⟨x,0,none⟩ = some (.int .i64 n)) : Calls Ydz 56 #[Pt x] w fun e w' => e = .returned (.int .i64 n) ∧ w = w' := by
 go_enter Tryz.func56,Tryz.ntmps56
 go_wp2
 go_ret
 exact ⟨rfl,rfl⟩
def Zi2 (wd : Nat) : Sk := ⟨wd,0,Yd2 4 (Yd2 (wd / 16) 0)⟩
def Zs5 (own : Nat → Nat) (w : World) (seed : Int) (wd : Nat) (e : Ending) (w' : World) : Prop := ∃ x rb own',e = .returned (Pt x) ∧ Ext w own own' ∧ Q9 own' w' x rb seed (Zi2 wd) ∧ Zb No w w'
theorem Ybg (own : Nat → Nat) (n : Int) (m : Nat) (h : m = 1 ∨ m = 2 ∨ m = 4 ∨ m = 8 ∨ m = 16 ∨ m = 32) (hn : Yt n 16 12 = ((16 * m : Nat) : Int)) (seed : Int) (w : World) :
  Calls Ydz 54 #[.int .i64 n,.int .i64 seed] w (Zs5 own w seed (16 * m)) := by
 have C := Zap n 16 65536 12 (by omega) (by decide) (by omega) (by decide +kernel) (by decide +kernel) w
 rw [show upV n 12 16 = ((16 * m : Nat) : Int) from hn] at C
 have C := Ydy C
 have hm : m ≤ 32 := by omega
 have hm1 : 1 ≤ m := by omega
 have MK := Ydy (Zu4 m (by omega))
 have hq : ((16 * m : Nat) : Int) / 16 = (m : Int) := by omega
 have hq2 : 16 * m / 16 = m := by omega
 have HQ : Hid (∀ e w',(∃ x rb own',e = .returned (Pt x) ∧ Ext w own own' ∧ Q9 own' w' x rb seed (Zi2 (16 * m)) ∧ Zb No w w') → Zs5 own w seed (16 * m) e w') := Ydy (fun _ _ h => h)
 generalize hw16 : 16 * m = wd at *
 have H16 := Ydy hw16
 have HQ2 := Ydy hq2
 have hwd : 16 ≤ wd ∧ wd ≤ 512 := by omega
 obtain ⟨hwd1,hwd2⟩ := hwd
 clear hw16 hq2 h hn
 go_enter Tryz.func54,Tryz.ntmps54
 go_wp2_with fail
 refine (C.out).mono ?_
 rintro e w' ⟨rfl,rfl⟩
 go_wp2
 refine wp_loop_rounds 5 ?_
 rw [rounds_succ]
 go_wp2
 have hqq : IntKind.i64.wrap (m : Int) = (m : Int) := by rw [Yd5 _ (by omega)]
 have hmk := MK.out
 go_region_with (fail)
 go_wp2
 rw [rounds_succ]
 go_wp2
 go_region_with (fail)
 go_wp2
 rw [rounds_succ]
 go_wp2
 go_region_with (fail)
 go_wp2
 rw [rounds_succ]
 go_wp2
 go_region_with (fail)
 go_wp2
 rw [rounds_succ]
 go_wp2
 go_ret
 generalize hO : Obj.cells #[.int .i64 (wd : Int),.int .i64 seed,.int .i64 0,.slice (some ⟨w.heap.size + 1,0,none⟩) m m,.slice (some ⟨w.heap.size + 1 + 1,0,none⟩) m m,.slice (some ⟨w.heap.size + 1 + 1 + 1,0,none⟩) m m,.slice (some ⟨w.heap.size + 1 + 1 + 1 + 1,0,none⟩) m m] 199 = o0
 generalize hR : Obj.cells (Zfz (Yd2 m 0)) 241 = o1
 have b0 : (((((w.alloc o0).alloc o1).alloc o1).alloc o1).alloc o1).heap[w.heap.size]? = some o0 := Zm (Zm (Zm (Zm (Zh w o0))))
 have b1 : (((((w.alloc o0).alloc o1).alloc o1).alloc o1).alloc o1).heap[w.heap.size + 1]? = some o1 := Zm (Zm (Zm (Kj w o0 o1)))
 have b2 : (((((w.alloc o0).alloc o1).alloc o1).alloc o1).alloc o1).heap[w.heap.size + 1 + 1]? = some o1 := by have := Zm (o':=o1) (Zm (o':=o1) (Kj (w.alloc o0) o1 o1)); simpa using this
 have b3 : (((((w.alloc o0).alloc o1).alloc o1).alloc o1).alloc o1).heap[w.heap.size + 1 + 1 + 1]? = some o1 := by have := Zm (o':=o1) (Kj ((w.alloc o0).alloc o1) o1 o1); simpa using this
 have b4 : (((((w.alloc o0).alloc o1).alloc o1).alloc o1).alloc o1).heap[w.heap.size + 1 + 1 + 1 + 1]? = some o1 := by have := (Kj (((w.alloc o0).alloc o1).alloc o1) o1 o1); simpa using this
 have hrep : ∀ r,r < 4 → (Zi2 wd).rows.getD r [] = Yd2 m 0 := fun r hr => by
  have : r = 0 ∨ r = 1 ∨ r = 2 ∨ r = 3 := by omega
  have e : (Zi2 wd).rows = Yd2 4 (Yd2 (wd / 16) 0) := rfl
  rw [e,HQ2.out]
  rcases this with rfl | rfl | rfl | rfl <;> rfl
 refine HQ.out _ _ ⟨w.heap.size,fun r => w.heap.size + 1 + r,fun b => if b < w.heap.size then own b else if b = w.heap.size then 24 else 25 + (b - w.heap.size - 1),rfl,fun b hb => if_pos hb,⟨?_,fun r hr => ?_,?_,fun r hr => ?_,fun r hr => ?_,by simp [Zi2],fun r hr v hv => ?_,⟨m,H16.out.symm,hm1,by omega⟩,⟨Int.le_refl _,by show (0 : Int) ≤ 10 * (wd : Int); omega⟩⟩,?_⟩
 ·show (if w.heap.size < w.heap.size then own w.heap.size else if w.heap.size = w.heap.size then 24 else _) = 24
  rw [if_neg (by omega),if_pos rfl]
 ·show (if w.heap.size + 1 + r < w.heap.size then own _ else if w.heap.size + 1 + r = w.heap.size then 24 else 25 + (w.heap.size + 1 + r - w.heap.size - 1)) = 25 + r
  rw [if_neg (by omega),if_neg (by omega)]; omega
 ·show (((((w.alloc o0).alloc o1).alloc o1).alloc o1).alloc o1).heap[w.heap.size]? = some (Obj.cells #[.int .i64 (wd : Int),.int .i64 seed,.int .i64 0,Sl (w.heap.size + 1 + 0) (wd / 16),Sl (w.heap.size + 1 + 1) (wd / 16),Sl (w.heap.size + 1 + 2) (wd / 16),Sl (w.heap.size + 1 + 3) (wd / 16)] 199)
  rw [HQ2.out,b0,← hO]
 ·rw [hrep r hr,hR]
  have : r = 0 ∨ r = 1 ∨ r = 2 ∨ r = 3 := by omega
  rcases this with rfl | rfl | rfl | rfl
  ·exact b1
  ·exact b2
  ·exact b3
  ·exact b4
 ·rw [hrep r hr]
  show (Yd2 m (0 : Int)).length = wd / 16
  rw [HQ2.out,List.length_replicate]
 ·rw [hrep r hr] at hv
  have := List.eq_of_mem_replicate hv
  subst this
  exact ⟨by omega,by omega⟩
 ·(repeat (first | with_reducible exact Yec _ _ | with_reducible refine Zb.drew ?_ | with_reducible refine Zb.drewN ?_ _ | with_reducible refine Zb.alloc ?_ _ | ((with_reducible refine Zb.setCell ?_ ?_ _); rotate_left; first | exact .inl rfl | exact .inr (Yeb _) | exact .inl (.inl rfl) | exact .inl (.inr rfl) | exact .inl (.inr (.inl rfl)) | exact .inl (.inr (.inr rfl)) | (focus (right; first | (simp; done) | (simp; omega))))))
def Zk1 (seed : Int) (wd : Nat) : Fi := ⟨seed,Zi2 wd,Yd2 (wd / 8) 0⟩
def Zsu (own : Nat → Nat) (w : World) (f : Fi) (e : Ending) (w' : World) : Prop := ∃ x l own',e = .returned (Pt x) ∧ Ext w own own' ∧ Za7 own' w' x l f ∧ Zb No w w'
theorem Znd (own : Nat → Nat) (n : Int) (hn : n ≤ 512) (seed : Int) (w : World) :
  Calls Ydz 30 #[.int .i64 n,.int .i64 seed] w (Zsu own w (Zk1 seed (Yt n 16 12).toNat)) := by
 obtain ⟨m,hm,hc⟩ := Yaa n hn
 rw [hc,Int.toNat_natCast]
 have S := Ydy (Ybg own n m hm hc seed w)
 have D := Ydy (fun own1 w1 => Zt2 own1 m hm seed w1)
 have hw8 : 16 * m / 8 = 2 * m := by omega
 have HW8 := Ydy hw8
 have HQ : Hid (∀ e w',(∃ x l own',e = .returned (Pt x) ∧ Ext w own own' ∧ Za7 own' w' x l (Zk1 seed (16 * m)) ∧ Zb No w w') → Zsu own w (Zk1 seed (16 * m)) e w') := Ydy (fun _ _ h => h)
 have hm0 : 1 ≤ m := by omega
 generalize hw16 : 16 * m = wd at *
 have H16 := Ydy hw16
 clear hm hc hw8 hw16
 go_enter Tryz.func30,Tryz.ntmps30
 go_wp2_with fail
 refine (S.out).mono ?_
 rintro e w1 ⟨x,rb,own1,rfl,he1,hs1,ho1⟩
 have c0 : w1.cell? ⟨x,0,none⟩ = some (.int .i64 (wd : Int)) := Za (j:=0) hs1.block rfl
 have hx := Ze hs1.block
 have HS := Ydy hs1
 have HE := Ydy he1
 have HO := Ydy ho1
 have hz := ho1.size
 clear hs1 he1 ho1
 go_wp2_with fail
 refine (Zsm (n:=(wd : Int)) (by go_simp)).mono ?_
 rintro e w2 ⟨rfl,hw2⟩
 subst hw2
 go_wp2_with fail
 refine (D.out (lab own1 w1.heap.size 22) _).mono ?_
 rintro e w3 ⟨dd,wb,own2,rfl,he2,hd2,ho2⟩
 have k0 : w3.heap[w1.heap.size]? = some (.cells #[Pt x] 142 (0,0)) := ho2.kept (Zh _ _) (fun h => h)
 have HK := Ydy k0
 have HD := Ydy hd2
 have HE2 := Ydy he2
 have HO2 := Ydy ho2
 have hz2 := ho2.size
 clear hd2 he2 ho2 k0
 go_wp2
 go_ret
 have hz3 : w1.heap.size < w3.heap.size := by have := hz2; simp at this; omega
 have hE : Ext w own own2 := ((HE.out.lab hz 22).trans (by simp; omega) HE2.out)
 have hE3 : Ext w3 own2 (lab (lab own2 w3.heap.size 23) (w3.heap.size + 1) 21) := ((Yd4 w3 own2).lab (Yeb _) _).lab (by omega) _
 have hEx : Ext w1 own1 (lab (lab own2 w3.heap.size 23) (w3.heap.size + 1) 21) := fun b hb => (hE3 b (by omega)).trans ((HE2.out b (by simp; omega)).trans (Zq (by omega)))
 have o3 : Zb No w1 w3 := ((Yec No w1).alloc _).trans HO2.out
 generalize hoa : Obj.cells #[Pt dd] 147 = oa
 generalize hob : Obj.cells #[Pt w1.heap.size,Pt w3.heap.size,.int .i64 0] 149 = ob
 have o4 : Zb No w3 ((w3.alloc oa).alloc ob) := ((Yec No w3).alloc _).alloc _
 have hlt := Ze HS.out.block
 refine HQ.out _ _ ⟨w3.heap.size + 1,⟨w1.heap.size,w3.heap.size,x,rb,dd,wb⟩,lab (lab own2 w3.heap.size 23) (w3.heap.size + 1) 21,rfl,(hE.lab (by omega) _).lab (by omega) _,⟨Zn _ _ _,?_,?_,⟨0,?_⟩,?_,?_,?_,?_,?_⟩,(HO.out.trans o3).trans o4⟩
 ·show lab _ _ _ w1.heap.size = 22
  rw [Zq (by omega),Zq (by omega),HE2.out w1.heap.size (by simp),Zn]
 ·show lab _ _ _ w3.heap.size = 23
  rw [Zq (by omega),Zn]
 ·rw [← hob] at *; exact Kj w3 oa _
 ·exact o4.kept HK.out (fun h => h)
 ·rw [← hoa]; exact Zbv w3 _ ob
 ·exact HS.out.kept hEx (o3.trans o4) (fun _ _ _ _ h => h)
 ·show (0 : Int) < 10 * (wd : Int); have := H16.out; omega
 ·show Xs _ _ dd wb seed (Yd2 (wd / 8) 0)
  rw [HW8.out]
  exact HD.out.kept hE3 o4 (fun _ _ _ _ h => h)
theorem Zo1 (a b : Int) (h0 : -9223372036854775808 ≤ a + b) (h1 : a + b ≤ 9223372036854775807) (w : World) : (binOp .add 3 (.int .i64 a) (.int .i64 b)).run Ydz w = .ok (.int .i64 (a + b)) w := by
 have e : IntKind.i64.wrap (a + b) = a + b := Yd5 _ ⟨h0,h1⟩
 simp [binOp,go_sem,e]
theorem Yce (a b : Int) (h0 : -9223372036854775808 ≤ a - b) (h1 : a - b ≤ 9223372036854775807) (w : World) : (binOp .sub 3 (.int .i64 a) (.int .i64 b)).run Ydz w = .ok (.int .i64 (a - b)) w := by
 have e : IntKind.i64.wrap (a - b) = a - b := Yd5 _ ⟨h0,h1⟩
 simp [binOp,go_sem,e]
theorem Zxc (i : Nat) (hi : i ≤ 12) (x : Nat) (hx : x ≤ 1000000) : Go.bits .and .i64 (x : Int) (((2 ^ i : Nat) : Int) - 1) = ((x % 2 ^ i : Nat) : Int) := by
 have h := bits_mask .i64 63 (by decide) (fun n h0 h1 => by rw [IntKind.wrap_i64]; omega) i (by omega) (x : Int) (by omega) (by omega)
 have e : ((2 ^ i : Nat) : Int) = (2 : Int) ^ i := by push_cast; rfl
 have e2 : ((x % 2 ^ i : Nat) : Int) = (x : Int) % (2 : Int) ^ i := by push_cast; rfl
 rw [e,e2]
 exact h
theorem Yca (i : Nat) (hi : i ≤ 12) (x : Nat) (hx : x ≤ 1000000) (w : World) : (binOp .and 3 (.int .i64 (x : Int)) (.int .i64 (((2 ^ i : Nat) : Int) - 1))).run Ydz w = .ok (.int .i64 ((x % 2 ^ i : Nat) : Int)) w := by
 have e := Zxc i hi x hx
 simp [binOp,go_sem]
 exact e
structure Xj (own : Nat → Nat) (w : World) (lb x cb : Nat) (r : Y8) : Prop where
 ox : own x = lb
 oc : own cb = lb + 1
 ex : ∃ (at_ i : Nat) (lost : Int) (cs : List Int),i ≤ 12 ∧ r.size = 2 ^ i ∧ at_ < r.size ∧ cs.length = r.size ∧ r.q.length ≤ r.size ∧ w.heap[x]? = some (.cells #[Sl cb r.size,.int .i64 (at_ : Int),.int .i64 (r.q.length : Int),.int .i64 lost] 188 (0,0)) ∧ w.heap[cb]? = some (.cells ((cs.map (Value.int .i64)).toArray) 3 (0,0)) ∧ ∀ j v,r.q[j]? = some v → cs[(at_ + j) % r.size]? = some v
theorem Xj.kept {cb : Nat} (h : Xj own w lb x cb r) (he : Ext w own own') (ho : Zb S w w') (hS : ∀ b,b < w.heap.size → own b = lb ∨ own b = lb + 1 → ¬ S b) : Xj own' w' lb x cb r := by
 obtain ⟨a,i,lost,cs,h1,h2,h3,h4,h5,h6,h7,h8⟩ := h.ex
 have b6 := Ze h6
 have b7 := Ze h7
 exact ⟨(he _ b6).trans h.ox,(he _ b7).trans h.oc,a,i,lost,cs,h1,h2,h3,h4,h5,ho.kept h6 (hS _ b6 (.inl h.ox)),ho.kept h7 (hS _ b7 (.inr h.oc)),h8⟩
def RgL (own : Nat → Nat) (lb : Nat) : Nat → Prop := fun b => own b = lb ∨ own b = lb + 1
theorem Zv5 {cb : Nat} (at_ i k : Nat) (hi : i ≤ 12) (ha : at_ ≤ 5000) (hk : k ≤ 5000) (c0 : w.cell? ⟨x,0,none⟩ = some (Sl cb (2 ^ i))) (c1 : w.cell? ⟨x,1,none⟩ = some (.int .i64 (at_ : Int))) :
  Calls Ydz 252 #[Pt x,.int .i64 (k : Int)] w fun e w' => e = .returned (.int .i64 (((at_ + k) % 2 ^ i : Nat) : Int)) ∧ w' = w.drew := by
 have A : Hid (∀ W,(binOp .add 3 (.int .i64 (at_ : Int)) (.int .i64 (k : Int))).run Ydz W = .ok (.int .i64 ((at_ + k : Nat) : Int)) W) := Ydy (fun W => by have := Zo1 (at_ : Int) (k : Int) (by omega) (by omega) W; rw [show ((at_ + k : Nat) : Int) = (at_ : Int) + (k : Int) from by omega]; exact this)
 have hp : 1 ≤ 2 ^ i ∧ 2 ^ i ≤ 4096 := ⟨Yem,Yel (Yd7 (by omega) hi) (by decide)⟩
 obtain ⟨hp1,hp2⟩ := hp
 have S := Ydy (Yce ((2 ^ i : Nat) : Int) 1 (by omega) (by omega))
 have B := Ydy (Yca i hi (at_ + k) (by omega))
 generalize (at_ + k) % 2 ^ i = res at *
 generalize 2 ^ i = N at *
 generalize at_ + k = s at *
 go_enter Tryz.func252,Tryz.ntmps252
 go_wp2
 refine Z4 13 (by kernel_rfl) (by kernel_rfl) ?_
 intro W3 hc3 hf3 hs3 HW3
 simp only [List.take_succ_cons,List.take_zero,List.drop_succ_cons,List.drop_zero]
 iterate 5 still_step
 refine Xg rfl _ _ rfl rfl rfl rfl (A.out _) ?_
 simp only [Act.put]
 iterate 5 still_step
 refine Xg rfl _ _ rfl rfl rfl rfl (S.out _) ?_
 simp only [Act.put]
 refine Xg rfl _ _ rfl rfl rfl rfl (B.out _) ?_
 simp only [Act.put]
 refine wpStill_nil ?_
 go_wp2
 go_ret
 exact ⟨rfl,HW3.out.symm⟩
theorem Ydo {cb : Nat} (h : Xj own w lb x cb r) : Calls Ydz 249 #[Pt x] w fun e w' => e = .returned (.int .i64 (r.q.length : Int)) ∧ w = w' := by
 obtain ⟨a,i,lost,cs,h1,h2,h3,h4,h5,h6,h7,h8⟩ := h.ex
 have c2 : w.cell? ⟨x,2,none⟩ = some (.int .i64 (r.q.length : Int)) := Za h6 rfl
 clear h h1 h2 h3 h4 h5 h6 h7 h8
 go_enter Tryz.func249,Tryz.ntmps249
 go_wp2
 go_ret
 exact ⟨rfl,rfl⟩
theorem Zyd {a j k : Nat} (hj : j < N) (hk : k < N) (h : (a + j) % N = (a + k) % N) : j = k := by
 rcases Yd9 j k with hl | hl
 ·have := Yeh h.symm
  rw [show a + k - (a + j) = k - j from by omega,Yei (by omega)] at this
  omega
 ·have := Yeh h
  rw [show a + j - (a + k) = j - k from by omega,Yei (by omega)] at this
  omega
def Zms (own : Nat → Nat) (w : World) (lb x cb : Nat) (r : Y8 × Bool) (e : Ending) (w' : World) : Prop := e = .returned (.bool r.2) ∧ Xj own w' lb x cb r.1 ∧ Zb (RgL own lb) w w'
theorem Ybb {cb : Nat} (h : Xj own w lb x cb r) (v : Int) : Calls Ydz 250 #[Pt x,.int .i64 v] w (Zms own w lb x cb (Xf r v)) := by
 have hox := h.ox
 have hoc := h.oc
 obtain ⟨a,i,lost,cs,h1,h2,h3,h4,h5,h6,h7,h8⟩ := h.ex
 have hxc : x ≠ cb := fun e => by rw [e] at hox; omega
 have hN : r.size ≤ 4096 := by rw [h2]; exact Yel (Yd7 (by omega) h1) (by decide)
 have c0 : w.cell? ⟨x,0,none⟩ = some (Sl cb r.size) := Za h6 rfl
 have c1 : w.cell? ⟨x,1,none⟩ = some (.int .i64 (a : Int)) := Za h6 rfl
 have c2 : w.cell? ⟨x,2,none⟩ = some (.int .i64 (r.q.length : Int)) := Za h6 rfl
 have c3 : w.cell? ⟨x,3,none⟩ = some (.int .i64 lost) := Za h6 rfl
 have f2 := Zc h6 2
 have f3 := Zc h6 3
 have HQ : Hid (∀ e w',(e = .returned (.bool (Xf r v).2) ∧ Xj own w' lb x cb (Xf r v).1 ∧ Zb (RgL own lb) w w') → Zms own w lb x cb (Xf r v) e w') := Ydy (fun _ _ h => h)
 by_cases hf : r.q.length = r.size
 ·have hb : ((r.q.length : Int) == (r.size : Int)) = true := by simp [hf]
  have HR : Hid (Xf r v = (r,false)) := Ydy (by unfold Xf; rw [if_pos hf])
  have HF : Hid (∀ u : Int,∀ W,Sm w W → Xj own (W.setCell ⟨x,3,none⟩ (.int .i64 u)) lb x cb r) := Ydy (fun u W hs => ⟨hox,hoc,a,i,u,cs,h1,h2,h3,h4,h5,(Zj (hs.block h6) 3 _).trans (by simp),Z7 (hs.block h7) (Ne.symm hxc) 3 _,h8⟩)
  generalize Xf r v = res at *
  clear h h1 h2 h3 h4 h5 h6 h7 h8 hf
  generalize r.q.length = ln at *
  generalize r.size = N at *
  go_enter Tryz.func250,Tryz.ntmps250
  go_wp2
  go_quiet (fail)
  go_wp2
  go_ret
  generalize wrap64 (lost + 1) = u
  refine HQ.out _ _ ⟨by rw [HR.out]; rfl,?_,?_⟩
  ·rw [HR.out]
   exact HF.out u _ (Sm.drewN _ _)
  ·exact ((Yec _ w).drewN _).setCell (p:=⟨x,3,none⟩) (.inl (.inl hox)) _
 ·have hb : ((r.q.length : Int) == (r.size : Int)) = false := beq_eq_false_iff_ne.2 (by omega)
  have HR : Hid (Xf r v = ({ r with q := r.q ++ [v] },true)) := Ydy (by unfold Xf; rw [if_neg hf])
  have hlt : r.q.length < r.size := by omega
  have hpl : (a + r.q.length) % r.size < r.size := Nat.mod_lt _ (by omega)
  have fc := Zc h7 ((a + r.q.length) % r.size)
  have cc : ∃ u,w.cell? ⟨cb,(a + r.q.length) % r.size,none⟩ = some u := by
   obtain ⟨u,hu⟩ : ∃ u,cs[(a + r.q.length) % r.size]? = some u := ⟨_,Yd8 (by omega)⟩
   exact ⟨_,Za h7 (v:=.int .i64 u) (by simp [hu])⟩
  obtain ⟨uc,cc⟩ := cc
  have P : Hid (∀ W : World,W.cell? ⟨x,0,none⟩ = some (Sl cb r.size) → W.cell? ⟨x,1,none⟩ = some (.int .i64 (a : Int)) → Calls Ydz 252 #[Pt x,.int .i64 (r.q.length : Int)] W fun e w' => e = .returned (.int .i64 (((a + r.q.length) % r.size : Nat) : Int)) ∧ w' = W.drew) := Ydy (fun W k0 k1 => by
   have := Zv5 a i r.q.length h1 (by omega) (by omega) (by rw [← h2]; exact k0) k1
   rw [← h2] at this
   exact this)
  have HF : Hid (∀ W,Sm w W → Xj own ((W.setCell ⟨cb,(a + r.q.length) % r.size,none⟩ (.int .i64 v)).setCell ⟨x,2,none⟩ (.int .i64 ((r.q.length : Int) + 1))) lb x cb { r with q := r.q ++ [v] }) := Ydy (fun W hs => by
   refine ⟨hox,hoc,a,i,lost,cs.set ((a + r.q.length) % r.size) v,h1,h2,h3,by rw [List.length_set]; exact h4,by show (r.q ++ [v]).length ≤ r.size; rw [Yek]; exact hlt,?_,?_,?_⟩
   ·have := Zj (Z7 (hs.block h6) hxc ((a + r.q.length) % r.size) (.int .i64 v)) 2 (.int .i64 ((r.q.length : Int) + 1))
    rw [this]
    show some (Obj.cells #[Sl cb r.size,.int .i64 (a : Int),.int .i64 ((r.q.length : Int) + 1),.int .i64 lost] 188) = some (Obj.cells #[Sl cb r.size,.int .i64 (a : Int),.int .i64 (((r.q ++ [v]).length : Nat) : Int),.int .i64 lost] 188)
    rw [Yek]
    rfl
   ·have := Z7 (Zj (hs.block h7) ((a + r.q.length) % r.size) (.int .i64 v)) (Ne.symm hxc) 2 (.int .i64 ((r.q.length : Int) + 1))
    rw [this]
    simp
   ·intro j u hu
    show (cs.set _ v)[(a + j) % r.size]? = some u
    rcases Yd9 j r.q.length with hj | hj
    ·have hu2 : r.q[j]? = some u := by
      have : (r.q ++ [v])[j]? = some u := hu
      rw [List.getElem?_append_left hj] at this
      exact this
     rw [List.getElem?_set_ne]
     ·exact h8 j u hu2
     ·intro e
      have := Zyd (by omega) (by omega) e
      omega
    ·have hu1 : (r.q ++ [v])[j]? = some u := hu
     rw [List.getElem?_append_right hj] at hu1
     have hj2 : j = r.q.length := by
      rcases Yd9 (j - r.q.length) 1 with h | h
      ·omega
      ·rw [Yd6 (by simpa using h)] at hu1; cases hu1
     subst hj2
     simp only [Nat.sub_self,List.getElem?_cons_zero,Option.some.injEq] at hu1
     subst hu1
     exact List.getElem?_set_self (by omega))
  generalize Xf r v = res at *
  clear h h1 h2 h3 h4 h5 h6 h7 h8 hf
  have hpl2 : (a + r.q.length) % r.size ≤ 5000 := by omega
  generalize (a + r.q.length) % r.size = pl at *
  generalize r.q.length = ln at *
  generalize r.size = N at *
  have IW1 := Yd5 ((ln : Int) + 1) (by omega)
  go_enter Tryz.func250,Tryz.ntmps250
  go_wp2
  go_quiet (fail)
  go_wp2
  go_region_with (go_at_call 252; refine (P.out _ (by go_simp) (by go_simp)).mono ?_; rintro e w' ⟨rfl,rfl⟩)
  all_goals
   try go_wp2
   try go_ret
   refine HQ.out _ _ ⟨by rw [HR.out]; rfl,?_,?_⟩
   ·rw [HR.out]
    exact HF.out _ (Sm.drewN _ _)
   ·exact (((Yec _ w).drewN _).setCell (p:=⟨cb,pl,none⟩) (.inl (.inr hoc)) _).setCell (p:=⟨x,2,none⟩) (.inl (.inl hox)) _
def Zs2 (own : Nat → Nat) (w : World) (lb x cb : Nat) (r : Y8 × Option Int) (e : Ending) (w' : World) : Prop := e = .returned (.tuple #[.int .i64 (r.2.getD 0),.bool r.2.isSome]) ∧ Xj own w' lb x cb r.1 ∧ Zb (RgL own lb) w w' ∧ (r.2 = none → w' = w)
def Js (r : Y8) : Y8 × Option Int := match r.q with
 | v :: q => ({ r with q := q },some v)
 | [] => (r,none)
theorem Ycy {cb : Nat} (h : Xj own w lb x cb r) : Calls Ydz 251 #[Pt x] w (Zs2 own w lb x cb (Js r)) := by
 have h0 := h
 have hox := h.ox
 have hoc := h.oc
 obtain ⟨a,i,lost,cs,h1,h2,h3,h4,h5,h6,h7,h8⟩ := h.ex
 have hxc : x ≠ cb := fun e => by rw [e] at hox; omega
 have hN : r.size ≤ 4096 := by rw [h2]; exact Yel (Yd7 (by omega) h1) (by decide)
 have c0 : w.cell? ⟨x,0,none⟩ = some (Sl cb r.size) := Za h6 rfl
 have c1 : w.cell? ⟨x,1,none⟩ = some (.int .i64 (a : Int)) := Za h6 rfl
 have c2 : w.cell? ⟨x,2,none⟩ = some (.int .i64 (r.q.length : Int)) := Za h6 rfl
 have f1 := Zc h6 1
 have f2 := Zc h6 2
 have HQ : Hid (∀ e w',(e = .returned (.tuple #[.int .i64 ((Js r).2.getD 0),.bool (Js r).2.isSome]) ∧ Xj own w' lb x cb (Js r).1 ∧ Zb (RgL own lb) w w' ∧ ((Js r).2 = none → w' = w)) → Zs2 own w lb x cb (Js r) e w') := Ydy (fun _ _ h => h)
 match hq : r.q with
 | [] =>
  have hb : ((r.q.length : Int) == 0) = true := by simp [hq]
  have HR : Hid (Js r = (r,none)) := Ydy (by unfold Js; rw [hq])
  have HF := Ydy h0
  generalize Js r = res at *
  clear h h0 h1 h2 h3 h4 h5 h6 h7 h8 hq
  generalize r.q.length = ln at *
  go_enter Tryz.func251,Tryz.ntmps251
  go_wp2
  go_ret2
  refine HQ.out _ _ ⟨by rw [HR.out]; rfl,?_,Yec _ _,fun _ => rfl⟩
  rw [HR.out]
  exact HF.out
 | v :: q =>
  have hl : r.q.length = q.length + 1 := by rw [hq]; rfl
  have hb : ((r.q.length : Int) == 0) = false := beq_eq_false_iff_ne.2 (by omega)
  have HR : Hid (Js r = ({ r with q := q },some v)) := Ydy (by unfold Js; rw [hq])
  have hv : cs[a]? = some v := by
   have := h8 0 v (by rw [hq]; rfl)
   rwa [Nat.add_zero,Yei h3] at this
  have cc : w.cell? ⟨cb,a,none⟩ = some (.int .i64 v) := Za h7 (by simp [hv])
  have P : Hid (∀ W : World,W.cell? ⟨x,0,none⟩ = some (Sl cb r.size) → W.cell? ⟨x,1,none⟩ = some (.int .i64 (a : Int)) → Calls Ydz 252 #[Pt x,.int .i64 1] W fun e w' => e = .returned (.int .i64 (((a + 1) % r.size : Nat) : Int)) ∧ w' = W.drew) := Ydy (fun W k0 k1 => by
   have := Zv5 a i 1 h1 (by omega) (by omega) (by rw [← h2]; exact k0) k1
   rw [← h2] at this
   exact this)
  have HF : Hid (∀ W,Sm w W → Xj own ((W.setCell ⟨x,1,none⟩ (.int .i64 (((a + 1) % r.size : Nat) : Int))).setCell ⟨x,2,none⟩ (.int .i64 ((r.q.length : Int) - 1))) lb x cb { r with q := q }) := Ydy (fun W hs => by
   refine ⟨hox,hoc,(a + 1) % r.size,i,lost,cs,h1,h2,Nat.mod_lt _ (by omega),h4,by show q.length ≤ r.size; omega,?_,?_,?_⟩
   ·have := Zj (Zj (hs.block h6) 1 (.int .i64 (((a + 1) % r.size : Nat) : Int))) 2 (.int .i64 ((r.q.length : Int) - 1))
    rw [this,hl]
    show some (Obj.cells #[Sl cb r.size,.int .i64 (((a + 1) % r.size : Nat) : Int),.int .i64 (((q.length + 1 : Nat) : Int) - 1),.int .i64 lost] 188) = some (Obj.cells #[Sl cb r.size,.int .i64 (((a + 1) % r.size : Nat) : Int),.int .i64 (q.length : Int),.int .i64 lost] 188)
    rw [show ((q.length + 1 : Nat) : Int) - 1 = (q.length : Int) from by omega]
   ·exact Z7 (Z7 (hs.block h7) (Ne.symm hxc) 1 _) (Ne.symm hxc) 2 _
   ·intro j u hu
    have := h8 (j + 1) u (by rw [hq]; exact hu)
    rw [← this,Nat.mod_add_mod]
    congr 2
    omega)
  generalize Js r = res at *
  have hln : r.q.length ≤ 4096 ∧ 1 ≤ r.q.length := by omega
  clear h h0 h1 h2 h4 h5 h6 h7 h8 hq hv hl
  have hpl2 : (a + 1) % r.size < r.size := Nat.mod_lt _ (by omega)
  generalize (a + 1) % r.size = pl at *
  generalize r.q.length = ln at *
  generalize r.size = N at *
  have IW1 := Yd5 ((ln : Int) - 1) (by omega)
  go_enter Tryz.func251,Tryz.ntmps251
  go_wp2
  go_quiet (fail)
  go_wp2_with fail
  refine (P.out _ (by go_simp) (by go_simp)).mono ?_
  rintro e w' ⟨rfl,rfl⟩
  go_wp2
  go_ret2
  refine HQ.out _ _ ⟨by rw [HR.out]; rfl,?_,?_,fun e => by rw [HR.out] at e; cases e⟩
  ·rw [HR.out]
   exact HF.out _ ((Sm.drewN _ _).trans ⟨rfl,rfl,rfl,rfl⟩)
  ·exact ((((Yec _ w).drewN _).drew).setCell (p:=⟨x,1,none⟩) (.inl (.inl hox)) _).setCell (p:=⟨x,2,none⟩) (.inl (.inl hox)) _
abbrev Chn := List (Nat × Ent)
def Ym : Chn → Value
 | [] => .pointer none
 | (b,_) :: _ => Pt b
def Kp (e : Ent) (p : Value) : Obj := .cells #[.int .i64 e.k,.int .i64 e.v,.int .i64 e.w,.int .i64 e.n,p] 226
def Y5 (w : World) : Chn → Prop
 | [] => True
 | (b,e) :: l => w.heap[b]? = some (Kp e (Ym l)) ∧ Y5 w l
def lk (k : Int) : Nat := 1000000 + 2 * k.natAbs + (if k < 0 then 1 else 0)
theorem Zbf {a b : Int} (h : lk a = lk b) : a = b := by
 unfold lk at h
 split at h <;> split at h <;> omega
theorem Ys (k : Int) : 1000000 ≤ lk k := by unfold lk; omega
structure Tb where
 rb : Nat
 new : List Chn
 os : Value
 old : List Chn
 moved : Nat
 cnt : Int
def Tb.place (t : Tb) (seed key : Int) : Bool × Nat :=
 if 0 < t.old.length - t.moved ∧ t.moved ≤ Ye (Yf seed key) 0 t.old.length then (true,Ye (Yf seed key) 0 t.old.length) else (false,Ye (Yf seed key) 0 t.new.length)
def Tb.at_ (t : Tb) (p : Bool × Nat) : Option Chn := if p.1 then t.old[p.2]? else t.new[p.2]?
structure Zfw (own : Nat → Nat) (w : World) (seed : Int) (ent : Int → Option Ent) (t : Tb) (p : Bool × Nat) (c : Chn) : Prop where
 links : Y5 w c
 mem : ∀ b e,(b,e) ∈ c → own b = lk e.k ∧ t.place seed e.k = p ∧ ent e.k = some e
 once : (c.map fun l => l.2.k).Nodup
def Zow (own : Nat → Nat) (w : World) (lb : Nat) (t : Tb) : Prop :=
 (t.old = [] ∧ t.os = .slice none 0 0) ∨ ∃ b arr,t.os = Sl b t.old.length ∧ (own b = lb + 1 ∧ b ≠ t.rb) ∧ w.heap[b]? = some (.cells arr 224 (0,0)) ∧ arr.size = t.old.length ∧ ∀ i c,t.moved ≤ i → t.old[i]? = some c → arr[i]? = some (Ym c)
structure Xd (own : Nat → Nat) (w : World) (lb x : Nat) (seed : Int) (ent : Int → Option Ent) (t : Tb) : Prop where
 ox : own x = lb
 orb : own t.rb = lb + 1
 block : w.heap[x]? = some (.cells #[.int .i64 seed,Sl t.rb t.new.length,t.os,.int .i64 (t.moved : Int),.int .i64 t.cnt] 186 (0,0))
 rows : w.heap[t.rb]? = some (.cells ((t.new.map Ym).toArray) 224 (0,0))
 size : ∃ j,j ≤ 13 ∧ t.new.length = 8 * 2 ^ j
 oldLen : t.old.length ≤ 65536 ∧ t.moved ≤ t.old.length
 oldOk : Zow own w lb t
 chN : ∀ i c,t.new[i]? = some c → Zfw own w seed ent t (false,i) c
 chO : ∀ i c,t.moved ≤ i → t.old[i]? = some c → Zfw own w seed ent t (true,i) c
 all : ∀ k e,ent k = some e → e.k = k ∧ ∃ c b,t.at_ (t.place seed k) = some c ∧ (b,e) ∈ c
theorem Xd.len {t : Tb} (h : Xd own w lb x seed ent t) : 8 ≤ t.new.length ∧ t.new.length ≤ 65536 := by
 obtain ⟨j,hj,he⟩ := h.size
 have h1 : 1 ≤ 2 ^ j := Yem
 have h2 : 2 ^ j ≤ 2 ^ 13 := Yd7 (by omega) hj
 have h3 : 2 ^ 13 = 8192 := by decide
 omega
theorem Zwn {t : Tb} (h : Xd own w lb x seed ent t) : Calls Ydz 225 #[Pt x] w fun e w' => e = .returned (.int .i64 ((t.old.length - t.moved : Nat) : Int)) ∧ ∃ m,w' = w.drewN m := by
 have c2 : w.cell? ⟨x,2,none⟩ = some t.os := Za h.block rfl
 have c3 : w.cell? ⟨x,3,none⟩ = some (.int .i64 (t.moved : Int)) := Za h.block rfl
 obtain ⟨hl1,hl2⟩ := h.oldLen
 have IW := Yd5 ((t.old.length : Int) - (t.moved : Int)) (by omega)
 have hE : ((t.old.length - t.moved : Nat) : Int) = (t.old.length : Int) - (t.moved : Int) := by omega
 rw [hE]
 have HO := h.oldOk
 clear h hE
 unfold Zow at HO
 generalize t.os = os at *
 rcases HO with ⟨he,rfl⟩ | ⟨b,arr,rfl,_⟩
 ·have hM : t.old.length = 0 := by rw [he]; rfl
  have hm : t.moved = 0 := by omega
  rw [hM,hm]
  rw [hm] at c3
  clear IW he hl1 hl2
  go_enter Tryz.func225,Tryz.ntmps225
  go_wp2
  go_quiet (fail)
  go_wp2
  go_ret
  exact ⟨rfl,_,rfl⟩
 ·generalize t.old.length = M at *
  generalize t.moved = mv at *
  go_enter Tryz.func225,Tryz.ntmps225
  go_wp2
  go_quiet (fail)
  go_wp2
  go_ret
  exact ⟨rfl,_,rfl⟩
theorem Zuq {M io : Nat} {mv : Int} (c0 : w.cell? ⟨x,0,none⟩ = some (.int .i64 seed)) (c2 : w.cell? ⟨x,2,none⟩ = some (Sl b M)) (c3 : w.cell? ⟨x,3,none⟩ = some (.int .i64 mv))
  (MX : Hid (∀ W,Calls Ydz 135 #[.int .i64 seed,.int .i64 key] W fun e w' => e = .returned (.int .u64 mx) ∧ w' = W))
  (LF : Hid (Calls Ydz 225 #[Pt x] w fun e w' => e = .returned (.int .i64 L) ∧ Sm w w'))
  (IX : Hid (∀ W,Calls Ydz 134 #[.int .u64 mx,.int .i64 0,.int .i64 (M : Int)] W fun e w' => e = .returned (.int .i64 (io : Int)) ∧ w' = W))
  (hL : 0 < L) (hio : io < M) (hg : mv ≤ (io : Int)) : Calls Ydz 224 #[Pt x,.int .i64 key] w fun e w' => e = .returned (.pointer (some ⟨b,io,none⟩)) ∧ Sm w w' := by
 go_enter Yen,Yej
 go_wp2_with fail
 refine (MX.out _).mono ?_
 rintro e w' ⟨rfl,rfl⟩
 go_wp2_with fail
 refine (LF.out).mono ?_
 rintro e w1 ⟨rfl,hs⟩
 have d2 := (hs.cell _).trans c2
 have d3 := (hs.cell _).trans c3
 have HS := Ydy hs
 clear hs c0 c2 c3
 go_wp2_with fail
 refine (IX.out _).mono ?_
 rintro e w' ⟨rfl,rfl⟩
 go_wp2
 go_ret
 exact ⟨rfl,HS.out⟩
theorem Zup {rb M io ix : Nat} {mv : Int} (c0 : w.cell? ⟨x,0,none⟩ = some (.int .i64 seed)) (c1 : w.cell? ⟨x,1,none⟩ = some (Sl rb N)) (c2 : w.cell? ⟨x,2,none⟩ = some (Sl b M)) (c3 : w.cell? ⟨x,3,none⟩ = some (.int .i64 mv))
  (MX : Hid (∀ W,Calls Ydz 135 #[.int .i64 seed,.int .i64 key] W fun e w' => e = .returned (.int .u64 mx) ∧ w' = W))
  (LF : Hid (Calls Ydz 225 #[Pt x] w fun e w' => e = .returned (.int .i64 L) ∧ Sm w w'))
  (IX : Hid (∀ W,Calls Ydz 134 #[.int .u64 mx,.int .i64 0,.int .i64 (M : Int)] W fun e w' => e = .returned (.int .i64 (io : Int)) ∧ w' = W))
  (IN : Hid (∀ W,Calls Ydz 134 #[.int .u64 mx,.int .i64 0,.int .i64 (N : Int)] W fun e w' => e = .returned (.int .i64 (ix : Int)) ∧ w' = W))
  (hL : 0 < L) (hix : ix < N) (hg : (io : Int) < mv) : Calls Ydz 224 #[Pt x,.int .i64 key] w fun e w' => e = .returned (.pointer (some ⟨rb,ix,none⟩)) ∧ Sm w w' := by
 go_enter Yen,Yej
 go_wp2_with fail
 refine (MX.out _).mono ?_
 rintro e w' ⟨rfl,rfl⟩
 go_wp2_with fail
 refine (LF.out).mono ?_
 rintro e w1 ⟨rfl,hs⟩
 have d1 := (hs.cell _).trans c1
 have d2 := (hs.cell _).trans c2
 have d3 := (hs.cell _).trans c3
 have HS := Ydy hs
 clear hs c0 c1 c2 c3
 go_wp2_with fail
 refine (IX.out _).mono ?_
 rintro e w' ⟨rfl,rfl⟩
 go_wp2
 go_quiet ((go_at_call 134; exact Calls.quiet_of_same (IN.out _)))
 go_wp2
 go_ret
 exact ⟨rfl,HS.out.trans ⟨rfl,rfl,rfl,rfl⟩⟩
theorem Zq5 {rb ix : Nat} (c0 : w.cell? ⟨x,0,none⟩ = some (.int .i64 seed)) (c1 : w.cell? ⟨x,1,none⟩ = some (Sl rb N))
  (MX : Hid (∀ W,Calls Ydz 135 #[.int .i64 seed,.int .i64 key] W fun e w' => e = .returned (.int .u64 mx) ∧ w' = W))
  (LF : Hid (Calls Ydz 225 #[Pt x] w fun e w' => e = .returned (.int .i64 L) ∧ Sm w w'))
  (IN : Hid (∀ W,Calls Ydz 134 #[.int .u64 mx,.int .i64 0,.int .i64 (N : Int)] W fun e w' => e = .returned (.int .i64 (ix : Int)) ∧ w' = W))
  (hL : L ≤ 0) (hix : ix < N) : Calls Ydz 224 #[Pt x,.int .i64 key] w fun e w' => e = .returned (.pointer (some ⟨rb,ix,none⟩)) ∧ Sm w w' := by
 go_enter Yen,Yej
 go_wp2_with fail
 refine (MX.out _).mono ?_
 rintro e w' ⟨rfl,rfl⟩
 go_wp2_with fail
 refine (LF.out).mono ?_
 rintro e w1 ⟨rfl,hs⟩
 have d1 := (hs.cell _).trans c1
 have HS := Ydy hs
 clear hs c0 c1
 go_wp2
 go_quiet ((go_at_call 134; exact Calls.quiet_of_same (IN.out _)))
 go_wp2
 go_ret
 exact ⟨rfl,HS.out.trans ⟨rfl,rfl,rfl,rfl⟩⟩
def Tb.slot (t : Tb) (p : Bool × Nat) (a : Addr) : Prop := if p.1 then ∃ b,t.os = Sl b t.old.length ∧ a = ⟨b,p.2,none⟩ else a = ⟨t.rb,p.2,none⟩
theorem Ybm {t : Tb} (h : Xd own w lb x seed ent t) (key : Int) : ∃ a c,t.slot (t.place seed key) a ∧ t.at_ (t.place seed key) = some c ∧ w.cell? a = some (Ym c) ∧ Calls Ydz 224 #[Pt x,.int .i64 key] w fun e w' => e = .returned (.pointer (some a)) ∧ Sm w w' := by
 have c0 : w.cell? ⟨x,0,none⟩ = some (.int .i64 seed) := Za h.block rfl
 have c1 : w.cell? ⟨x,1,none⟩ = some (Sl t.rb t.new.length) := Za h.block rfl
 have c2 : w.cell? ⟨x,2,none⟩ = some t.os := Za h.block rfl
 have c3 : w.cell? ⟨x,3,none⟩ = some (.int .i64 (t.moved : Int)) := Za h.block rfl
 obtain ⟨hn1,hn2⟩ := h.len
 obtain ⟨hl1,hl2⟩ := h.oldLen
 have LF : Hid (Calls Ydz 225 #[Pt x] w fun e w' => e = .returned (.int .i64 ((t.old.length - t.moved : Nat) : Int)) ∧ Sm w w') := Ydy ((Zwn h).mono (fun e w' ⟨a,m,b⟩ => ⟨a,by rw [b]; exact ⟨rfl,rfl,rfl,rfl⟩⟩))
 have MX : Hid (∀ W,Calls Ydz 135 #[.int .i64 seed,.int .i64 key] W fun e w' => e = .returned (.int .u64 (Yf seed key)) ∧ w' = W) := Ydy (fun W => (Zee seed key W).mono fun _ _ h => ⟨h.1,h.2.symm⟩)
 have hu := Zed seed key
 have IX : ∀ n : Nat,0 < n → n ≤ 100000 → ∀ W,Calls Ydz 134 #[.int .u64 (Yf seed key),.int .i64 0,.int .i64 (n : Int)] W fun e w' => e = .returned (.int .i64 (Ye (Yf seed key) 0 n : Int)) ∧ w' = W := fun n h1 h2 W => (Znm (Yf seed key) hu n h1 h2 W).mono fun _ _ h => ⟨h.1,h.2.symm⟩
 have IL : ∀ n : Nat,0 < n → Ye (Yf seed key) 0 n < n := fun n hn => Qo (Yf seed key) 0 hn
 have INew := Ydy (IX t.new.length (by omega) (by omega))
 have hin := IL t.new.length (by omega)
 have HNEW : t.place seed key = (false,Ye (Yf seed key) 0 t.new.length) → (Calls Ydz 224 #[Pt x,.int .i64 key] w fun e w' => e = .returned (.pointer (some ⟨t.rb,Ye (Yf seed key) 0 t.new.length,none⟩)) ∧ Sm w w') → ∃ a c,t.slot (t.place seed key) a ∧ t.at_ (t.place seed key) = some c ∧ w.cell? a = some (Ym c) ∧ Calls Ydz 224 #[Pt x,.int .i64 key] w fun e w' => e = .returned (.pointer (some a)) ∧ Sm w w' := by
  intro hp hC
  have hg : t.new[Ye (Yf seed key) 0 t.new.length]? = some t.new[Ye (Yf seed key) 0 t.new.length] := Yd8 hin
  refine ⟨_,_,by rw [hp]; rfl,by rw [hp]; exact hg,?_,hC⟩
  exact Za h.rows (by simp [hg])
 by_cases hleft : 0 < t.old.length - t.moved
 ·rcases h.oldOk with ⟨he,_⟩ | ⟨b,arr,ho,hb1,hb2,hb3,hb4⟩
  ·rw [he] at hleft; simp at hleft
  have hio := IL t.old.length (by omega)
  rw [ho] at c2
  have IOld : Hid (∀ W,Calls Ydz 134 #[.int .u64 (Yf seed key),.int .i64 0,.int .i64 (t.old.length : Int)] W fun e w' => e = .returned (.int .i64 (Ye (Yf seed key) 0 t.old.length : Int)) ∧ w' = W) := Ydy (IX t.old.length (by omega) (by omega))
  by_cases hge : t.moved ≤ Ye (Yf seed key) 0 t.old.length
  ·have hP : t.place seed key = (true,Ye (Yf seed key) 0 t.old.length) := by unfold Tb.place; rw [if_pos ⟨hleft,hge⟩]
   have hg : t.old[Ye (Yf seed key) 0 t.old.length]? = some t.old[Ye (Yf seed key) 0 t.old.length] := Yd8 hio
   exact ⟨⟨b,Ye (Yf seed key) 0 t.old.length,none⟩,_,by rw [hP]; exact ⟨b,ho,rfl⟩,by rw [hP]; exact hg,Za hb2 (hb4 _ _ hge hg),Zuq c0 c2 c3 MX LF IOld (by omega) hio (by omega)⟩
  ·have hP : t.place seed key = (false,Ye (Yf seed key) 0 t.new.length) := by unfold Tb.place; rw [if_neg (fun e => hge e.2)]
   exact HNEW hP (Zup c0 c1 c2 c3 MX LF IOld INew (by omega) hin (by omega))
 ·have hP : t.place seed key = (false,Ye (Yf seed key) 0 t.new.length) := by unfold Tb.place; rw [if_neg (fun e => hleft e.1)]
  exact HNEW hP (Zq5 c0 c1 MX LF INew (by omega) hin)
theorem Y5.at_ {post : Chn} {e : Ent} (pre : Chn) (h : Y5 w (pre ++ (b,e) :: post)) : w.heap[b]? = some (Kp e (Ym post)) := by
 induction pre with
 | nil => exact h.1
 | cons q pre ih => exact ih h.2
theorem Y5.sm (hs : Sm w w') {c : Chn} (h : Y5 w c) : Y5 w' c := by
 induction c with
 | nil => trivial
 | cons q l ih => exact ⟨hs.block h.1,ih h.2⟩
structure Jl (w : World) (c : Chn) (a0 : Addr) (key : Int) (a : Addr) (pre post : Chn) : Prop where
 app : pre ++ post = c
 ne : ∀ l ∈ pre,l.2.k ≠ key
 cell : w.cell? a = some (Ym post)
 at_ : (pre = [] ∧ a = a0) ∨ ∃ pre' b e,pre = pre' ++ [(b,e)] ∧ a = ⟨b,4,none⟩
theorem Jl.back (hs : Sm w w') {c : Chn} {pre post : Chn} (h : Jl w' c a0 key a pre post) : Jl w c a0 key a pre post := ⟨h.app,h.ne,(hs.cell a).symm.trans h.cell,h.at_⟩
def Zsv (w : World) (c : Chn) (a0 : Addr) (key : Int) (g : Nat) (p : Value) (wr : World) : Prop := wr = w ∧ ∃ a pre post,p = .pointer (some a) ∧ Jl w c a0 key a pre post ∧ post.length = g
def Zov (w : World) (c : Chn) (a0 : Addr) (key : Int) (e : Ending) (w' : World) : Prop := ∃ a pre post,e = .returned (.pointer (some a)) ∧ Sm w w' ∧ Jl w c a0 key a pre post ∧ (post = [] ∨ ∃ b e rest,post = (b,e) :: rest ∧ e.k = key)
theorem Zqx {c : Chn} (H : Hid (Calls Ydz 224 #[Pt x,.int .i64 key] w fun e w' => e = .returned (.pointer (some a0)) ∧ Sm w w')) (hc : Y5 w c) (h0 : w.cell? a0 = some (Ym c)) :
  Calls Ydz 220 #[Pt x,.int .i64 key] w (Zov w c a0 key) := by
 have HC : Hid (∀ w',Sm w w' → Y5 w' c) := Ydy (fun w' hs => hc.sm hs)
 have HF : Hid (∀ w',Sm w w' → Zsv w' c a0 key c.length (.pointer (some a0)) w') := Ydy (fun w' hs => ⟨rfl,a0,[],c,rfl,⟨rfl,fun _ h => (nomatch h),(hs.cell _).trans h0,.inl ⟨rfl,rfl⟩⟩,rfl⟩)
 clear hc h0
 go_enter Tryz.func220,Tryz.ntmps220
 go_wp2_with fail
 refine (H.out).mono ?_
 rintro e w1 ⟨rfl,hs⟩
 have HS := Ydy hs
 have HL := Ydy (HC.out w1 hs)
 have HR := HF.out w1 hs
 clear hs HC HF
 go_wp2
 go_loopg [5] c.length (fun g p wr => Zsv w1 c a0 key g p wr)
 case atStart => exact HR
 case round =>
  obtain ⟨rfl,a,pre,post,rfl,F,hg⟩ := hrel
  have ca := F.cell
  have HF := Ydy F
  have HG := Ydy hg
  clear F hg
  cases post with
  | nil =>
   have HX : Hid (Zov w c a0 key (.returned (.pointer (some a))) wr) := Ydy ⟨a,pre,[],rfl,HS.out,HF.out.back HS.out,.inl rfl⟩
   unfold Ym at ca
   go_wp2
   go_ret
   exact HX.out
  | cons q rest =>
   obtain ⟨b,en⟩ := q
   have hb := (show wr.heap[b]? = some (Kp en (Ym rest)) from Y5.at_ pre (by rw [HF.out.app]; exact HL.out))
   have cb : wr.cell? ⟨b,0,none⟩ = some (.int .i64 en.k) := Za hb rfl
   have cn : wr.cell? ⟨b,4,none⟩ = some (Ym rest) := Za hb rfl
   have hca : wr.cell? a = some (Pt b) := ca
   clear ca hb
   by_cases hk : en.k = key
   ·have HX : Hid (Zov w c a0 key (.returned (.pointer (some a))) wr) := Ydy ⟨a,pre,(b,en) :: rest,rfl,HS.out,HF.out.back HS.out,.inr ⟨b,en,rest,rfl,hk⟩⟩
    rw [hk] at cb
    clear hk cn HF HG
    go_wp2
    go_ret
    exact HX.out
   ·have HX : Hid (Zsv wr c a0 key rest.length (.pointer (some ⟨b,4,none⟩)) wr) := Ydy ⟨rfl,_,pre ++ [(b,en)],rest,rfl,⟨by rw [Yeo]; exact HF.out.app,fun l hl => by
     rcases List.mem_append.1 hl with y | y
     ·exact HF.out.ne l y
     ·rw [List.mem_singleton.1 y]; exact hk,cn,.inr ⟨pre,b,en,rfl,rfl⟩⟩,rfl⟩
    have HM : Hid (rest.length < gk) := Ydy (by have := HG.out; simp only [List.length_cons] at this; omega)
    clear HF HG cn
    generalize en.k = ek at *
    go_wp2
    go_roundg rest.length
    case rel => exact HX.out
    case measure => exact HM.out
theorem Xd.links {t : Tb} (h : Xd own w lb x seed ent t) {c : Chn} (hp : p.1 = true → t.moved ≤ p.2) (hc : t.at_ p = some c) : Zfw own w seed ent t p c := by
 obtain ⟨b,i⟩ := p
 cases b with
 | true => exact h.chO i c (hp rfl) hc
 | false => exact h.chN i c hc
theorem X0 {t : Tb} (h : (t.place seed key).1 = true) : t.moved ≤ (t.place seed key).2 := by
 unfold Tb.place at h ⊢
 split
 ·rename_i e; exact e.2
 ·rename_i e; rw [if_neg e] at h; cases h
theorem Zwm {t : Tb} (h : Xd own w lb x seed ent t) (key : Int) : ∃ a0 c,t.slot (t.place seed key) a0 ∧ t.at_ (t.place seed key) = some c ∧ w.cell? a0 = some (Ym c) ∧ Calls Ydz 220 #[Pt x,.int .i64 key] w (Zov w c a0 key) := by
 obtain ⟨a0,c,h1,h2,h3,h4⟩ := Ybm h key
 exact ⟨a0,c,h1,h2,h3,Zqx (Ydy h4) (h.links X0 h2).links h3⟩
end
theorem Y5.same {c : Chn} (h : Y5 w c) (hb : ∀ b e,(b,e) ∈ c → w'.heap[b]? = w.heap[b]?) : Y5 w' c := by
 induction c with
 | nil => trivial
 | cons q l ih => exact ⟨(hb q.1 q.2 Yd0).trans h.1,ih h.2 (fun b e he => hb b e (Yef _ he))⟩
theorem Y5.right {a b : Chn} (h : Y5 w (a ++ b)) : Y5 w b := by
 induction a with
 | nil => exact h
 | cons q l ih => exact ih h.2
theorem Zlk {post post' : Chn} {b0 : Nat} {e0 : Ent} (pre : Chn) (h : Y5 w (pre ++ [(b0,e0)] ++ post)) (hp : Y5 w' post') (h0 : w'.heap[b0]? = some (Kp e0 (Ym post'))) (hb : ∀ b e,(b,e) ∈ pre → w'.heap[b]? = w.heap[b]?) : Y5 w' (pre ++ [(b0,e0)] ++ post') := by
 induction pre with
 | nil => exact ⟨h0,hp⟩
 | cons q l ih =>
  refine ⟨?_,ih h.2 (fun b e he => hb b e (Yef _ he))⟩
  rw [hb q.1 q.2 Yd0]
  have := h.1
  cases l with
  | nil => exact this
  | cons q' l' => exact this
theorem Y5.block_lt {c : Chn} (h : Y5 w c) {e : Ent} (hm : (b,e) ∈ c) : b < w.heap.size := by
 induction c with
 | nil => cases hm
 | cons q l ih =>
  rcases List.mem_cons.1 hm with y | y
  ·have h1 := h.1
   rw [← y] at h1
   exact Ze h1
  ·exact ih h.2 y
def TbL (own : Nat → Nat) (lb : Nat) (Z : Int → Prop) : Nat → Prop := fun b => own b = lb ∨ own b = lb + 1 ∨ ∃ k,Z k ∧ own b = lk k
theorem Xd.kept {t : Tb} (h : Xd own w lb x seed ent t) (he : Ext w own own') (ho : Zb S w w') (hS : ∀ b,b < w.heap.size → (own b = lb ∨ own b = lb + 1 ∨ ∃ k e,ent k = some e ∧ own b = lk k) → ¬ S b) : Xd own' w' lb x seed ent t := by
 have hx := Ze h.block
 have hr := Ze h.rows
 have hb : ∀ (p : Bool × Nat) (c : Chn),Zfw own w seed ent t p c → Zfw own' w' seed ent t p c := fun p c hc => by
  have hb : ∀ b e,(b,e) ∈ c → w'.heap[b]? = w.heap[b]? := fun b e hm => by
   obtain ⟨m1,m2,m3⟩ := hc.mem b e hm
   exact ho.block b (hc.links.block_lt hm) (hS b (hc.links.block_lt hm) (.inr (.inr ⟨e.k,e,m3,m1⟩)))
  exact ⟨hc.links.same hb,fun b e hm => by
   obtain ⟨m1,m2,m3⟩ := hc.mem b e hm
   exact ⟨(he b (hc.links.block_lt hm)).trans m1,m2,m3⟩,hc.once⟩
 refine ⟨(he _ hx).trans h.ox,(he _ hr).trans h.orb,ho.kept h.block (hS _ hx (.inl h.ox)),ho.kept h.rows (hS _ hr (.inr (.inl h.orb))),h.size,h.oldLen,?_,fun i c hc => hb _ _ (h.chN i c hc),fun i c hi hc => hb _ _ (h.chO i c hi hc),h.all⟩
 rcases h.oldOk with a | ⟨b,arr,h1,h2,h3,h4,h5⟩
 ·exact .inl a
 ·have hl := Ze h3
  exact .inr ⟨b,arr,h1,⟨(he _ hl).trans h2.1,h2.2⟩,ho.kept h3 (hS _ hl (.inr (.inl h2.1))),h4,h5⟩
def Tb.put (t : Tb) (p : Bool × Nat) (c : Chn) : Tb := if p.1 then { t with old := t.old.set p.2 c } else { t with new := t.new.set p.2 c }
theorem Zct (t : Tb) (p : Bool × Nat) (c : Chn) (seed key : Int) : (t.put p c).place seed key = t.place seed key := by
 unfold Tb.put Tb.place
 split <;> simp
theorem Zn7 {t : Tb} {c c' : Chn} (h : t.at_ p = some c) : (t.put p c').at_ p = some c' := by
 obtain ⟨b,i⟩ := p
 cases b with
 | true =>
  have h' : t.old[i]? = some c := h
  show (t.old.set i c')[i]? = some c'
  have hi : i < t.old.length := by
   rcases Yd9 i t.old.length with a | a
   ·exact a
   ·rw [Yd6 a] at h'; cases h'
  rw [Yd1,if_pos rfl,if_pos hi]
 | false =>
  have h' : t.new[i]? = some c := h
  show (t.new.set i c')[i]? = some c'
  have hi : i < t.new.length := by
   rcases Yd9 i t.new.length with a | a
   ·exact a
   ·rw [Yd6 a] at h'; cases h'
  rw [Yd1,if_pos rfl,if_pos hi]
theorem Zit {t : Tb} {q : Bool × Nat} {c' : Chn} (h : q ≠ p) : (t.put p c').at_ q = t.at_ q := by
 obtain ⟨b,i⟩ := p
 obtain ⟨b',i'⟩ := q
 cases b <;> cases b'
 ·show (t.new.set i c')[i']? = t.new[i']?
  rw [Yd1,if_neg (fun e => h (by rw [e]))]
 ·rfl
 ·rfl
 ·show (t.old.set i c')[i']? = t.old[i']?
  rw [Yd1,if_neg (fun e => h (by rw [e]))]
theorem Zj7 {l : List Chn} {i : Nat} {c c' : Chn} (h : l[i]? = some c) (hp : Ym c' = Ym c) : (l.set i c').map Ym = l.map Ym := by
 apply List.ext_getElem?
 intro j
 simp only [Yep,Yd1]
 split
 ·rename_i e
  subst e
  have hi : i < l.length := by
   rcases Yd9 i l.length with a | a
   ·exact a
   ·rw [Yd6 a] at h; cases h
  rw [if_pos hi,h]
  simp [hp]
 ·rfl
theorem Zfy (l : List Chn) (i : Nat) (c' : Chn) : ((l.set i c').map Ym).toArray = (l.map Ym).toArray.setIfInBounds i (Ym c') := by
 apply Array.ext_getElem?
 intro j
 rw [Array.getElem?_setIfInBounds]
 simp only [List.getElem?_toArray,Yep,Yd1,List.size_toArray,List.length_map]
 split
 ·rename_i e
  subst e
  by_cases hi : i < l.length
  ·simp [hi]
  ·simp [hi]
 ·rfl
theorem Zlm {a : Chn} (h : a ≠ []) (b c : Chn) : Ym (a ++ b) = Ym (a ++ c) := by
 cases a with
 | nil => exact absurd rfl h
 | cons q l => rfl
theorem Xd.store {ent' : Int → Option Ent} {t : Tb} (h : Xd own w lb x seed ent t) (hlb : lb + 2 < 1000000) {c pre post post' : Chn} (hs : t.slot (t.place seed key) a0) (hc : t.at_ (t.place seed key) = some c) (F : Jl w c a0 key a pre post)
  (hp : ∀ w',(∀ b,(∃ e,(b,e) ∈ post') → w'.heap[b]? = w.heap[b]?) → Y5 w' post') (hown : ∀ b e,(b,e) ∈ post' → own b = lk e.k ∧ t.place seed e.k = t.place seed key ∧ e.k ∉ pre.map (fun l => l.2.k)) (hn : (post'.map fun l => l.2.k).Nodup)
  (h1 : ∀ k,t.place seed k ≠ t.place seed key → ent' k = ent k) (h2 : ∀ b e,(b,e) ∈ pre ++ post' → ent' e.k = some e) (h3 : ∀ k e,t.place seed k = t.place seed key → ent' k = some e → e.k = k ∧ ∃ b,(b,e) ∈ pre ++ post') :
  Xd own (w.setCell a (Ym post')) lb x seed ent' (t.put (t.place seed key) (pre ++ post')) := by
 have hC := h.links X0 hc
 generalize hpp : t.place seed key = p at *
 have happ := F.app
 have hpre : ∀ b e,(b,e) ∈ pre → (b,e) ∈ c := fun b e hm => by rw [← happ]; exact Yee _ hm
 -- where the store goes
 have hab : (pre = [] ∧ a = a0) ∨ ∃ pre' b e,pre = pre' ++ [(b,e)] ∧ a = ⟨b,4,none⟩ := F.at_
 have hnod : ((pre ++ post').map fun l => l.2.k).Nodup := by
  rw [Yed]
  refine Yea.2 ⟨?_,hn,fun u hu v hv e => ?_⟩
  ·have := hC.once
   rw [← happ,Yed] at this
   exact (Yea.1 this).1
  ·subst e
   obtain ⟨q,hq,rfl⟩ := Yeg.1 hv
   exact (hown q.1 q.2 hq).2.2 hu
 have hplace : ∀ b e,(b,e) ∈ pre ++ post' → own b = lk e.k ∧ t.place seed e.k = p := fun b e hm => by
  rcases List.mem_append.1 hm with y | y
  ·obtain ⟨m1,m2,_⟩ := hC.mem b e (hpre b e y)
   exact ⟨m1,m2⟩
  ·exact ⟨(hown b e y).1,(hown b e y).2.1⟩
 -- blocks that stay
 have far : ∀ b,b ≠ a.block → (w.setCell a (Ym post')).heap[b]? = w.heap[b]? := fun b hb => RowKit.Below.heap_setCell w a (Ym post') b hb
 have aown : a.block = t.rb ∨ (∃ b,t.os = Sl b t.old.length ∧ a.block = b ∧ p.1 = true) ∨ ∃ b e,(b,e) ∈ pre ∧ a.block = b := by
  rcases hab with ⟨_,rfl⟩ | ⟨pre',b,e,rfl,rfl⟩
  ·unfold Tb.slot at hs
   split at hs
   ·rename_i e
    obtain ⟨b,hb1,rfl⟩ := hs
    exact .inr (.inl ⟨b,hb1,rfl,e⟩)
   ·subst hs; exact .inl rfl
  ·exact .inr (.inr ⟨b,e,Yd3 _ Yd0,rfl⟩)
 have hob : ∀ b,t.os = Sl b t.old.length → own b = lb + 1 ∧ b ≠ t.rb := fun b hb => by
  rcases h.oldOk with ⟨_,e⟩ | ⟨b',arr,e1,e2,_⟩
  ·rw [e] at hb; simp [Sl] at hb
  ·rw [e1] at hb
   simp only [Sl,Value.slice.injEq,Option.some.injEq,Addr.mk.injEq,and_true] at hb
   rw [← hb]; exact e2
 have alab : own a.block = lb + 1 ∨ ∃ e b,(b,e) ∈ pre ∧ own a.block = lk e.k := by
  rcases aown with e | ⟨b,e1,e2,_⟩ | ⟨b,e,e1,e2⟩
  ·rw [e]; exact .inl h.orb
  ·rw [e2]; exact .inl (hob b e1).1
  ·rw [e2]; exact .inr ⟨e,b,e1,(hC.mem b e (hpre b e e1)).1⟩
 have hxne : x ≠ a.block := fun e => by
  have o := h.ox
  rw [e] at o
  rcases alab with z | ⟨e1,_,_,z⟩
  ·omega
  ·have := Ys e1.k; omega
 -- links of other chains
 have others : ∀ (q : Bool × Nat) (d : Chn),q ≠ p → Zfw own w seed ent t q d → Zfw own (w.setCell a (Ym post')) seed ent' (t.put p (pre ++ post')) q d := fun q d hq hd => by
  refine ⟨hd.links.same (fun b e hm => far b (fun e' => ?_)),fun b e hm => ?_,hd.once⟩
  ·obtain ⟨m1,m2,m3⟩ := hd.mem b e hm
   rw [e'] at m1
   rcases alab with z | ⟨e1,b1,z1,z⟩
   ·have := Ys e.k; omega
   ·rw [z] at m1
    have hk := Zbf m1
    have := (hC.mem b1 e1 (hpre _ _ z1)).2.1
    rw [hk,m2] at this
    exact hq this
  ·obtain ⟨m1,m2,m3⟩ := hd.mem b e hm
   exact ⟨m1,by rw [Zct]; exact m2,by rw [h1 e.k (by rw [m2]; exact hq)]; exact m3⟩
 -- this chain
 have hpost : Y5 (w.setCell a (Ym post')) post' := hp _ (fun b ⟨e,hm⟩ => far b (fun e' => by
  have o := (hown b e hm).1
  rw [e'] at o
  rcases alab with z | ⟨e1,b1,z1,z⟩
  ·have := Ys e.k; omega
  ·rw [z] at o
   exact (hown b e hm).2.2 (Yeg.2 ⟨(b1,e1),z1,Zbf o⟩)))
 have hcl := hC.links
 rw [← happ] at hcl
 have hthis : Zfw own (w.setCell a (Ym post')) seed ent' (t.put p (pre ++ post')) p (pre ++ post') := by
  refine ⟨?_,fun b e hm => ⟨(hplace b e hm).1,by rw [Zct]; exact (hplace b e hm).2,h2 b e hm⟩,hnod⟩
  rcases hab with ⟨rfl,rfl⟩ | ⟨pre',b,e,rfl,rfl⟩
  ·exact hpost
  ·have hbl := Y5.at_ (pre:=pre') (b:=b) (e:=e) (post:=post) (by simpa using hcl)
   refine Zlk pre' hcl hpost ?_ (fun b' e' hm' => far b' (fun e2 => ?_))
   ·have := Zj hbl 4 (Ym post')
    exact this
   ·have hn2 := hC.once
    rw [← happ,Yeo,Yed] at hn2
    have m1 := (hC.mem b' e' (hpre _ _ (Yee _ hm'))).1
    have m2 := (hC.mem b e (hpre _ _ (Yd3 _ Yd0))).1
    have e3 : b' = b := e2
    rw [e3,m2] at m1
    exact (Yea.1 hn2).2.2 _ (Yeg.2 ⟨(b',e'),hm',rfl⟩) _ (Yeg.2 ⟨(b,e),Yee _ Yd0,rfl⟩) (Zbf m1).symm
 -- rows
 have hat : ∀ q d,(t.put p (pre ++ post')).at_ q = some d → (q = p ∧ d = pre ++ post') ∨ (q ≠ p ∧ t.at_ q = some d) := fun q d hd => by
  by_cases e : q = p
  ·subst e
   rw [Zn7 hc] at hd
   cases hd
   exact .inl ⟨rfl,rfl⟩
  ·rw [Zit e] at hd
   exact .inr ⟨e,hd⟩
 have hlenN : (t.put p (pre ++ post')).new.length = t.new.length := by unfold Tb.put; split <;> simp
 have hlenO : (t.put p (pre ++ post')).old.length = t.old.length := by unfold Tb.put; split <;> simp
 have hmv : (t.put p (pre ++ post')).moved = t.moved := by unfold Tb.put; split <;> rfl
 have hos : (t.put p (pre ++ post')).os = t.os := by unfold Tb.put; split <;> rfl
 have hrb : (t.put p (pre ++ post')).rb = t.rb := by unfold Tb.put; split <;> rfl
 have hcnt : (t.put p (pre ++ post')).cnt = t.cnt := by unfold Tb.put; split <;> rfl
 have rbne : a.block = t.rb → p.1 = false ∧ pre = [] ∧ a = ⟨t.rb,p.2,none⟩ := fun e => by
  rcases hab with ⟨e1,rfl⟩ | ⟨pre',b,e',rfl,rfl⟩
  ·unfold Tb.slot at hs
   split at hs
   ·obtain ⟨b,hb1,rfl⟩ := hs
    exact absurd e (hob b hb1).2
   ·rename_i hh
    exact ⟨by cases hq : p.1 <;> simp_all,e1,hs⟩
  ·have m2 := (hC.mem b e' (hpre _ _ (Yd3 _ Yd0))).1
   have e2 : b = t.rb := e
   rw [e2,h.orb] at m2
   have := Ys e'.k
   omega
 have hrows : (w.setCell a (Ym post')).heap[t.rb]? = some (.cells (((t.put p (pre ++ post')).new.map Ym).toArray) 224 (0,0)) := by
  by_cases e : a.block = t.rb
  ·obtain ⟨e1,e2,e3⟩ := rbne e
   subst e3
   subst e2
   have hput : (t.put p ([] ++ post')).new = t.new.set p.2 post' := by unfold Tb.put; rw [if_neg (by rw [e1]; simp)]; rfl
   rw [hput,Zfy]
   exact Zj h.rows p.2 (Ym post')
  ·rw [far _ (fun e' => e e'.symm),h.rows]
   congr 2
   congr 1
   unfold Tb.put
   split
   ·rfl
   ·rename_i hh
    have hp1 : p.1 = false := by cases hq : p.1 <;> simp_all
    have hc' : t.new[p.2]? = some c := by unfold Tb.at_ at hc; rw [if_neg (by rw [hp1]; simp)] at hc; exact hc
    show t.new.map Ym = (t.new.set p.2 (pre ++ post')).map Ym
    refine (Zj7 hc' ?_).symm
    have hpn : pre ≠ [] := fun e1 => by
     rcases hab with ⟨_,e2⟩ | ⟨pre',b,e',e2,_⟩
     ·unfold Tb.slot at hs
      rw [if_neg (by rw [hp1]; simp)] at hs
      exact e (by rw [e2,hs])
     ·rw [e1] at e2
      have := congrArg List.length e2
      simp at this
    rw [← happ]
    exact Zlm hpn _ _
 have hold : Zow own (w.setCell a (Ym post')) lb (t.put p (pre ++ post')) := by
  unfold Zow
  rw [hos,hlenO,hmv]
  rcases h.oldOk with ⟨e1,e2⟩ | ⟨b,arr,g1,g2,g3,g4,g5⟩
  ·refine .inl ⟨?_,e2⟩
   have : (t.put p (pre ++ post')).old.length = 0 := by rw [hlenO,e1]; rfl
   exact List.length_eq_zero_iff.1 this
  ·by_cases e : a.block = b
   ·-- the slot in the old row
    have hpt : p.1 = true ∧ pre = [] ∧ a = ⟨b,p.2,none⟩ := by
     rcases hab with ⟨e1,rfl⟩ | ⟨pre',b',e',rfl,rfl⟩
     ·unfold Tb.slot at hs
      split at hs
      ·rename_i hh
       obtain ⟨b2,hb1,rfl⟩ := hs
       have e3 : b2 = b := e
       rw [e3]
       exact ⟨hh,e1,rfl⟩
      ·rename_i hh
       have e3 : t.rb = b := by rw [hs] at e; exact e
       exact absurd e3.symm g2.2
     ·have m2 := (hC.mem b' e' (hpre _ _ (Yd3 _ Yd0))).1
      have e2 : b' = b := e
      rw [e2,g2.1] at m2
      have := Ys e'.k
      omega
    obtain ⟨e1,e2,e3⟩ := hpt
    subst e3
    subst e2
    refine .inr ⟨b,arr.setIfInBounds p.2 (Ym post'),g1,by rw [hrb]; exact g2,Zj g3 _ _,by rw [Array.size_setIfInBounds]; exact g4,fun i d hi hd => ?_⟩
    have hput : (t.put p ([] ++ post')).old = t.old.set p.2 post' := by unfold Tb.put; rw [if_pos e1]; rfl
    rw [hput,Yd1] at hd
    rw [Array.getElem?_setIfInBounds]
    split at hd
    ·rename_i ei
     split at hd
     ·rename_i hl
      cases hd
      rw [if_pos ei,if_pos (by rw [g4]; exact hl)]
     ·cases hd
    ·rename_i ei
     rw [if_neg ei]
     exact g5 i d hi hd
   ·refine .inr ⟨b,arr,g1,by rw [hrb]; exact g2,by rw [far _ (fun e' => e e'.symm)]; exact g3,g4,fun i d hi hd => ?_⟩
    unfold Tb.put at hd
    split at hd
    ·rename_i hh
     have hpn : pre ≠ [] := fun e1 => by
      rcases hab with ⟨_,e2⟩ | ⟨pre',b',e',e2,_⟩
      ·unfold Tb.slot at hs
       rw [if_pos hh] at hs
       obtain ⟨b2,hb1,hb2⟩ := hs
       rw [g1] at hb1
       simp only [Sl,Value.slice.injEq,Option.some.injEq,Addr.mk.injEq,and_true] at hb1
       exact e (by rw [e2,hb2]; exact hb1.symm)
      ·rw [e1] at e2
       have := congrArg List.length e2
       simp at this
     have hc' : t.old[p.2]? = some c := by unfold Tb.at_ at hc; rw [if_pos hh] at hc; exact hc
     have hd' : (t.old.set p.2 (pre ++ post'))[i]? = some d := hd
     rw [Yd1] at hd'
     split at hd'
     ·rename_i ei
      split at hd'
      ·cases hd'
       rw [← ei] at hi ⊢
       rw [g5 _ _ hi hc',← happ]
       rw [Zlm hpn post post']
      ·cases hd'
     ·exact g5 i d hi hd'
    ·exact g5 i d hi hd
 refine ⟨h.ox,by rw [hrb]; exact h.orb,?_,by rw [hrb]; exact hrows,by rw [hlenN]; exact h.size,by rw [hlenO,hmv]; exact h.oldLen,hold,fun i d hd => ?_,fun i d hi hd => ?_,fun k e hke => ?_⟩
 ·rw [hos,hrb,hlenN,hmv,hcnt,far _ hxne]; exact h.block
 ·rcases hat (false,i) d hd with ⟨e1,e2⟩ | ⟨e1,e2⟩
  ·rw [e2,e1]; exact hthis
  ·exact others _ _ e1 (h.chN i d e2)
 ·rw [hmv] at hi
  rcases hat (true,i) d hd with ⟨e1,e2⟩ | ⟨e1,e2⟩
  ·rw [e2,e1]; exact hthis
  ·exact others _ _ e1 (h.chO i d hi e2)
 ·rw [Zct]
  by_cases e1 : t.place seed k = p
  ·obtain ⟨f1,b,f2⟩ := h3 k e e1 hke
   exact ⟨f1,_,b,by rw [e1]; exact Zn7 hc,f2⟩
  ·rw [h1 k e1] at hke
   obtain ⟨f1,d,b,f2,f3⟩ := h.all k e hke
   exact ⟨f1,d,b,by rw [Zit e1]; exact f2,f3⟩
section
attribute [local go_sem] World.setCell_drew Zg Zf
def Yg (e : Ent) : Value := .agg #[.int .i64 e.k,.int .i64 e.v,.int .i64 e.w,.int .i64 e.n]
def Zy : Ent := ⟨0,0,0,0⟩
theorem Xd.found {t : Tb} (h : Xd own w lb x seed ent t) {c pre post : Chn} (hc : t.at_ (t.place seed key) = some c) (F : Jl w c a0 key a pre post) (hp : post = [] ∨ ∃ b e rest,post = (b,e) :: rest ∧ e.k = key) :
  (post = [] ∧ ent key = none) ∨ ∃ b e rest,post = (b,e) :: rest ∧ e.k = key ∧ ent key = some e ∧ own b = lk key ∧ w.heap[b]? = some (Kp e (Ym rest)) ∧ ∀ l ∈ rest,l.2.k ≠ key := by
 have hC := h.links X0 hc
 have happ := F.app
 rcases hp with rfl | ⟨b,e,rest,rfl,hk⟩
 ·refine .inl ⟨rfl,?_⟩
  cases he : ent key with
  | none => rfl
  | some e =>
   obtain ⟨f1,d,b,f2,f3⟩ := h.all key e he
   rw [hc] at f2
   cases f2
   rw [List.append_nil] at happ
   rw [← happ] at f3
   exact absurd f1 (F.ne _ f3)
 ·have hm : (b,e) ∈ c := by rw [← happ]; exact Yd3 _ Yd0
  obtain ⟨m1,m2,m3⟩ := hC.mem b e hm
  refine .inr ⟨b,e,rest,rfl,hk,by rw [← hk]; exact m3,by rw [m1,hk],?_,fun l hl e' => ?_⟩
  ·have hl := hC.links
   rw [← happ] at hl
   exact Y5.at_ pre hl
  ·have hn := hC.once
   rw [← happ,Yed,List.map_cons] at hn
   have := (List.nodup_cons.1 (Yea.1 hn).2.1).1
   exact this (Yeg.2 ⟨l,hl,by rw [e',hk]⟩)
theorem Yh (h : w.heap[b]? = some (.cells #[v0,v1,v2,v3] ty (0,0))) :
  w.cell? ⟨b,0,none⟩ = some v0 ∧ w.cell? ⟨b,1,none⟩ = some v1 ∧ w.cell? ⟨b,2,none⟩ = some v2 ∧ w.cell? ⟨b,3,none⟩ = some v3 ∧ w.frozen? ⟨b,0,none⟩ = false ∧ w.frozen? ⟨b,1,none⟩ = false ∧ w.frozen? ⟨b,2,none⟩ = false ∧ w.frozen? ⟨b,3,none⟩ = false :=
 ⟨Za h rfl,Za h rfl,Za h rfl,Za h rfl,Zc h _,Zc h _,Zc h _,Zc h _⟩
theorem Zm1 {v4 : Value} (h : w.heap[b]? = some (.cells #[v0,v1,v2,v3,v4] ty (0,0))) :
  w.cell? ⟨b,0,none⟩ = some v0 ∧ w.cell? ⟨b,1,none⟩ = some v1 ∧ w.cell? ⟨b,2,none⟩ = some v2 ∧ w.cell? ⟨b,3,none⟩ = some v3 ∧ w.cell? ⟨b,4,none⟩ = some v4 ∧ w.frozen? ⟨b,0,none⟩ = false ∧ w.frozen? ⟨b,1,none⟩ = false ∧ w.frozen? ⟨b,2,none⟩ = false ∧ w.frozen? ⟨b,3,none⟩ = false ∧ w.frozen? ⟨b,4,none⟩ = false :=
 ⟨Za h rfl,Za h rfl,Za h rfl,Za h rfl,Za h rfl,Zc h _,Zc h _,Zc h _,Zc h _,Zc h _⟩
def Zfb (x : Nat) (key : Int) (a : Addr) (w : World) : Prop := Calls Ydz 220 #[Pt x,.int .i64 key] w fun e w' => e = .returned (.pointer (some a)) ∧ Sm w w'
theorem Zuj {post : Chn} (H : Hid (∀ W,Zb No w W → Zfb x key a W ∧ W.cell? a = some (Ym post))) (r : Option Ent)
  (hr : (post = [] ∧ r = none) ∨ ∃ b e rest,post = (b,e) :: rest ∧ w.heap[b]? = some (Kp e (Ym rest)) ∧ r = some e) :
  Calls Ydz 208 #[Pt x,.int .i64 key] w fun e w' => e = .returned (.tuple #[Yg (r.getD Zy),.bool r.isSome]) ∧ Zb No w w' := by
 have ho := (Yec No w).alloc (.cells #[.int .i64 0,.int .i64 0,.int .i64 0,.int .i64 0] 115)
 obtain ⟨hf,hca⟩ := H.out _ ho
 have FF := Ydy hf
 rcases hr with ⟨rfl,rfl⟩ | ⟨b,en,rest,rfl,hb,rfl⟩
 ·have HO := Ydy ho
  clear ho hf H
  go_enter Tryz.func208,Tryz.ntmps208
  go_wp2_with fail
  refine (FF.out).mono ?_
  rintro e w1 ⟨rfl,hs⟩
  have ca : w1.cell? a = some (.pointer none) := (hs.cell _).trans hca
  obtain ⟨z0,z1,z2,z3,f0,f1,f2,f3⟩ := Yh (hs.block (Zh w _))
  have HS : Hid (Zb No w w1) := Ydy (HO.out.trans hs.only)
  clear hs hca
  go_wp2
  refine bodyPost_ret (v:=.tuple #[Yg Zy,.bool false]) (by simp [results,Tryz.results208,go_sem,Yg,Zy,z0,z1,z2,z3]) rfl ⟨rfl,HS.out⟩
 ·have hb1 := ho.kept hb (fun h => h)
  have hne : b ≠ w.heap.size := Nat.ne_of_lt (Ze hb)
  have HO := Ydy ho
  clear ho hf H hb
  go_enter Tryz.func208,Tryz.ntmps208
  go_wp2_with fail
  refine (FF.out).mono ?_
  rintro e w1 ⟨rfl,hs⟩
  have ca : w1.cell? a = some (.pointer (some ⟨b,0,none⟩)) := (hs.cell _).trans hca
  have hz : w1.heap[w.heap.size]? = some (.cells #[.int .i64 0,.int .i64 0,.int .i64 0,.int .i64 0] 115 (0,0)) := hs.block (Zh w _)
  obtain ⟨z0,z1,z2,z3,f0,f1,f2,f3⟩ := Yh hz
  obtain ⟨y0,y1,y2,y3,_⟩ := Zm1 (hs.block hb1)
  have HS : Hid (Zb No w w1) := Ydy (HO.out.trans hs.only)
  clear hs hca hb1 hz
  go_wp2
  refine bodyPost_ret (v:=.tuple #[Yg en,.bool true]) (by simp [results,Tryz.results208,go_sem,Yg,z0,z1,z2,z3]) rfl ⟨rfl,?_⟩
  exact (((HS.out.setCell (.inr (Yeb _)) _).setCell (.inr (Yeb _)) _).setCell (.inr (Yeb _)) _).setCell (.inr (Yeb _)) _
theorem Jl.only {c : Chn} {pre post : Chn} (h : Jl w c a0 key a pre post) (ho : Zb No w w') : Jl w' c a0 key a pre post := ⟨h.app,h.ne,Zd h.cell ho (fun h => h),h.at_⟩
def spl (key : Int) : Chn → Chn × Chn
 | [] => ([],[])
 | q :: l => if q.2.k = key then ([],q :: l) else (q :: (spl key l).1,(spl key l).2)
def Zd2 (a0 : Addr) (pre : Chn) : Addr := pre.foldl (fun _ q => ⟨q.1,4,none⟩) a0
theorem Zh5 (a0 : Addr) (pre : Chn) (q : Nat × Ent) : Zd2 a0 (pre ++ [q]) = ⟨q.1,4,none⟩ := by unfold Zd2; rw [List.foldl_append]; rfl
theorem Zpz (key : Int) (c : Chn) : (spl key c).1 ++ (spl key c).2 = c := by
 induction c with
 | nil => rfl
 | cons q l ih =>
  unfold spl
  split
  ·rfl
  ·show q :: (_ ++ _) = _
   rw [ih]
theorem Ybi (key : Int) (c : Chn) : ∀ l ∈ (spl key c).1,l.2.k ≠ key := by
 induction c with
 | nil => intro l hl; cases hl
 | cons q l ih =>
  unfold spl
  split
  ·intro l hl; cases hl
  ·rename_i h
   intro l hl
   rcases List.mem_cons.1 hl with e | e
   ·rw [e]; exact h
   ·exact ih l e
theorem Zaz (key : Int) (c : Chn) : (spl key c).2 = [] ∨ ∃ b e rest,(spl key c).2 = (b,e) :: rest ∧ e.k = key := by
 induction c with
 | nil => exact .inl rfl
 | cons q l ih =>
  unfold spl
  split
  ·rename_i h; exact .inr ⟨q.1,q.2,l,rfl,h⟩
  ·exact ih
theorem Zl1 : ∀ {pre post : Chn},(∀ l ∈ pre,l.2.k ≠ key) → (post = [] ∨ ∃ b e rest,post = (b,e) :: rest ∧ e.k = key) → spl key (pre ++ post) = (pre,post)
 | [],post,_,h => by
  rcases h with rfl | ⟨b,e,rest,rfl,he⟩
  ·rfl
  ·show spl key ((b,e) :: rest) = _
   unfold spl
   rw [if_pos he]
 | q :: pre,post,h1,h2 => by
  show spl key (q :: (pre ++ post)) = _
  unfold spl
  rw [if_neg (h1 q Yd0),Zl1 (fun l hl => h1 l (Yef _ hl)) h2]
theorem Jl.end_ {c : Chn} {pre post : Chn} (h : Jl w c a0 key a pre post) : a = Zd2 a0 pre := by
 rcases h.at_ with ⟨rfl,rfl⟩ | ⟨pre',b,e,rfl,rfl⟩
 ·rfl
 ·rw [Zh5]
theorem Zjq (a0 : Addr) (pre : Chn) : (pre = [] ∧ Zd2 a0 pre = a0) ∨ ∃ pre' b e,pre = pre' ++ [(b,e)] ∧ Zd2 a0 pre = ⟨b,4,none⟩ := by
 rcases List.eq_nil_or_concat pre with rfl | ⟨l,q,rfl⟩
 ·exact .inl ⟨rfl,rfl⟩
 ·rw [List.concat_eq_append]
  exact .inr ⟨l,q.1,q.2,rfl,Zh5 _ _ _⟩
theorem Zr6 {t : Tb} {b : Addr} (h1 : t.slot p a) (h2 : t.slot p b) : a = b := by
 unfold Tb.slot at h1 h2
 split at h1
 ·rename_i h
  rw [if_pos h] at h2
  obtain ⟨x,hx,rfl⟩ := h1
  obtain ⟨y,hy,rfl⟩ := h2
  rw [hx] at hy
  simp only [Sl,Value.slice.injEq,Option.some.injEq,Addr.mk.injEq,and_true] at hy
  rw [hy]
 ·rename_i h
  rw [if_neg h] at h2
  rw [h1,h2]
theorem Zaf {t : Tb} (h : Xd own w lb x seed ent t) {c : Chn} (hs : t.slot (t.place seed key) a0) (hc : t.at_ (t.place seed key) = some c) :
  Jl w c a0 key (Zd2 a0 (spl key c).1) (spl key c).1 (spl key c).2 ∧ Zfb x key (Zd2 a0 (spl key c).1) w := by
 obtain ⟨a0',c',g1,g2,g3,g4⟩ := Zwm h key
 rw [hc] at g2
 cases g2
 obtain rfl := Zr6 g1 hs
 have hl := (h.links X0 hc).links
 have happ := Zpz key c
 refine ⟨⟨happ,Ybi key c,?_,Zjq _ _⟩,g4.mono ?_⟩
 ·rcases Zjq a0' (spl key c).1 with ⟨e1,e2⟩ | ⟨pre',b,e,e1,e2⟩
  ·rw [e2,g3]
   rw [e1,List.nil_append] at happ
   rw [happ]
  ·rw [e2]
   have h2 : Y5 w (pre' ++ (b,e) :: (spl key c).2) := by
    have : pre' ++ (b,e) :: (spl key c).2 = c := by rw [e1] at happ; simpa using happ
    rw [this]; exact hl
   exact Za (Y5.at_ pre' h2) rfl
 ·rintro e w' ⟨a,pre,post,rfl,hsm,F,hp⟩
  have hu := Zl1 F.ne hp
  rw [F.app] at hu
  rw [hu,F.end_]
  exact ⟨rfl,hsm⟩
theorem Zcw {t : Tb} (h : Xd own w lb x seed ent t) (key : Int) : ∃ a0 c,t.slot (t.place seed key) a0 ∧ t.at_ (t.place seed key) = some c := by
 obtain ⟨a0,c,g1,g2,_⟩ := Zwm h key
 exact ⟨a0,c,g1,g2⟩
theorem Zz1 {t : Tb} (h : Xd own w lb x seed ent t) (key : Int) : Calls Ydz 208 #[Pt x,.int .i64 key] w fun e w' => e = .returned (.tuple #[Yg ((ent key).getD Zy),.bool (ent key).isSome]) ∧ Zb No w w' := by
 obtain ⟨a0,c,hs,hc⟩ := Zcw h key
 have F := (Zaf h hs hc).1
 refine Zuj (a:=Zd2 a0 (spl key c).1) (post:=(spl key c).2) (Ydy (fun W ho => ?_)) (ent key) ?_
 ·have h' := h.kept (Yd4 _ _) ho (fun _ _ _ h => h)
  exact ⟨(Zaf h' hs hc).2,(F.only ho).cell⟩
 ·rcases h.found hc F (Zaz key c) with ⟨e1,e2⟩ | ⟨b,e,rest,e1,_,e3,_,e5,_⟩
  ·exact .inl ⟨e1,e2⟩
  ·exact .inr ⟨b,e,rest,e1,e5,e3⟩
end
end Go.Proofs.YtdkhbegheognnaaGreatDoor.W

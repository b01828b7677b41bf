/- Part of the proof of TopEvicts, joined by a program of the session: Sha Shg Shw Shr Shp Shn Rgn Tbo. -/
import Derived.Test.YtdkhbegheognnaaGreatDoorJ04
import Derived.Test.YtdkhbegheognnaaGreatDoorJ01
import Derived.Test.YtdkhbegheognnaaGreatDoorJ06
import Derived.Test.YtdkhbegheognnaaGreatDoorJ03
import Derived.Deep.RegionLaw
namespace Go.Proofs.YtdkhbegheognnaaGreatDoor.W
open Go.RowKit Go.Maps
open _root_.Go.Proofs.Tryz renaming prog → Ydz, ntmps212 → Yd9, func212 → Yea, underlying118 → Yeb, underlying60 → Yec, ntmps187 → Yef, func187 → Yej
open _root_.Nat renaming le_refl → Yd0, pow_le_pow_right → Yee, lt_trans → Yeg, ne_of_lt → Yeh, one_le_two_pow → Yei
open Zb renaming refl → Yd1, setCell → Yd3
open Ext renaming refl → Yd2
open _root_.List renaming drop_succ_cons → Yd4, take_succ_cons → Yd5, drop_zero → Yd6, take_zero → Yd7, range → Yd8, replicate → Yed
set_option maxHeartbeats 4000000
set_option maxRecDepth 100000
variable {own own' : Nat → Nat}
variable {w w' W W' Wf wr : World}
variable {x n2 : Nat}
variable {s s' : Sh}
variable {e a b c : Ent}
variable {v : Value}
section
attribute [local go_sem] World.setCell_drew Zg Zf
structure Ya where
 tv : Value
 tb : Nat → Nat
 km : Nat
 gm : Nat
 gf : Int → Option Value
 gn : Nat
 wt : Int
def Ve (s : Sh) (i : Nat) : Int → Option Ent := fun k => if s.shard k = i then Zk s.ent k else none
def shC (l : Ya) (s : Sh) : Array Value := #[.int .i64 s.seed,l.tv,.int .i64 (s.given : Int),.map (some l.km),.map (some l.gm),.int .i64 l.wt]
def Zjc (g : Int → Option Value) : Prop := ∀ k,I64 k → g k = none ∨ ∃ b,g k = some (.bool b)
structure Y4 (own : Nat → Nat) (w : World) (x : Nat) (l : Ya) (s : Sh) : Prop where
 ox : own x = 40
 block : w.heap[x]? = some (.cells (shC l s) 121 (0,0))
 row : Row own 41 w 123 1 l.tv s.n ((Yd8 s.n).map fun i => Pt (l.tb i))
 n : 1 ≤ s.n ∧ s.n ≤ 64
 tab : ∀ i,i < s.n → ∃ t,Qx own w (1000 + 10 * i) (l.tb i) s.seed (Ve s i) t
 okm : own l.km = 42
 ogm : own l.gm = 43
 keys : Zs w l.km (kf s.keys) s.keys.length
 gone : Zs w l.gm l.gf l.gn
 gok : Zjc l.gf
 gsz : l.gn + s.keys.length ≤ s.given
def ShL (own : Nat → Nat) : Nat → Prop := fun b => (40 ≤ own b ∧ own b < 50) ∨ (1000 ≤ own b ∧ own b < 2000) ∨ 1000000 ≤ own b
theorem TbL.sh {i : Nat} (hi : i < 64) {Z : Int → Prop} {b : Nat} (h : TbL own (1000 + 10 * i) Z b) : ShL own b := by
 rcases h with z | z | ⟨k,_,z⟩
 ·exact .inr (.inl ⟨by omega,by omega⟩)
 ·exact .inr (.inl ⟨by omega,by omega⟩)
 ·exact .inr (.inr (by rw [z]; exact Ys k))
theorem Ydw {i : Nat} (hi : i < 64) {ent : Int → Option Ent} {b : Nat} (h : own b = 1000 + 10 * i ∨ own b = 1000 + 10 * i + 1 ∨ ∃ k e,ent k = some e ∧ own b = lk k) : ShL own b := by
 rcases h with z | z | ⟨k,_,_,z⟩
 ·exact .inr (.inl ⟨by omega,by omega⟩)
 ·exact .inr (.inl ⟨by omega,by omega⟩)
 ·exact .inr (.inr (by rw [z]; exact Ys k))
theorem Y4.kept {l : Ya} {S : Nat → Prop} (h : Y4 own w x l s) (he : Ext w own own') (ho : Zb S w w') (hS : ∀ b,b < w.heap.size → ShL own b → ¬ S b) : Y4 own' w' x l s := by
 have hx := Ze h.block
 have hk := h.keys.lt
 have hg := h.gone.lt
 have o1 := h.ox
 have o2 := h.okm
 have o3 := h.ogm
 have hn := h.n
 refine ⟨(he _ hx).trans h.ox,ho.kept h.block (hS _ hx (.inl ⟨by omega,by omega⟩)),h.row.kept he ho (fun b hb e => hS b hb (.inl ⟨by omega,by omega⟩)),h.n,fun i hi => ?_,(he _ hk).trans h.okm,(he _ hg).trans h.ogm,h.keys.kept ho (hS _ hk (.inl ⟨by omega,by omega⟩)),h.gone.kept ho (hS _ hg (.inl ⟨by omega,by omega⟩)),h.gok,h.gsz⟩
 obtain ⟨t,ht⟩ := h.tab i hi
 exact ⟨t,ht.ok.kept he ho (fun b hb hl => hS b hb (Ydw (by omega) hl)),ht.rest⟩
theorem Y4.sm {l : Ya} (h : Y4 own w x l s) (hs : Sm w w') : Y4 own w' x l s := h.kept (Yd2 _ _) hs.only (fun _ _ _ h => (h : False))
theorem Y4.no {l : Ya} (h : Y4 own w x l s) (hs : Zb No w w') : Y4 own w' x l s := h.kept (Yd2 _ _) hs (fun _ _ _ h => (h : False))
theorem Y4.table {l : Ya} (h : Y4 own w x l s) {key : Int} {v : Option Ent} {t : Tb} (he : Ext w own own') (ht : Qx own' w' (1000 + 10 * s.shard key) (l.tb (s.shard key)) s.seed (Kv (Ve s (s.shard key)) key v) t)
  (ho : Zb (TbL own (1000 + 10 * s.shard key) (fun k => (Ve s (s.shard key) k).isSome = true ∨ k = key)) w w') (hsh : s.shard key < s.n) (ent' : List (Int × Ent)) (hent : ∀ k,Zk ent' k = if k = key then v else Zk s.ent k) : Y4 own' w' x l { s with ent := ent' } ∧ Zb (ShL own) w w' := by
 have hx := Ze h.block
 have hk := h.keys.lt
 have hg := h.gone.lt
 have o1 := h.ox
 have o2 := h.okm
 have o3 := h.ogm
 have hn := h.n
 have far : ∀ b,40 ≤ own b → own b < 50 → ¬ TbL own (1000 + 10 * s.shard key) (fun k => (Ve s (s.shard key) k).isSome = true ∨ k = key) b := fun b h1 h2 hT => by
  rcases hT with z | z | ⟨k,_,z⟩
  ·omega
  ·omega
  ·have := Ys k; omega
 have hzk : ∀ k,((Ve s (s.shard key) k).isSome = true ∨ k = key) → s.shard k = s.shard key := fun k hk => by
  rcases hk with z | z
  ·unfold Ve at z
   split at z
   ·assumption
   ·cases z
  ·rw [z]
 have hE : ∀ i,Ve { s with ent := ent' } i = if i = s.shard key then Kv (Ve s (s.shard key)) key v else Ve s i := fun i => by
  funext k
  unfold Ve
  by_cases hi : i = s.shard key
  ·rw [if_pos hi]
   unfold Kv
   show (if s.shard k = i then Zk ent' k else none) = _
   rw [hent,hi]
   by_cases hkk : k = key
   ·rw [if_pos hkk,if_pos hkk,if_pos (by rw [hkk])]
   ·rw [if_neg hkk,if_neg hkk]
  ·rw [if_neg hi]
   show (if s.shard k = i then Zk ent' k else none) = if s.shard k = i then Zk s.ent k else none
   rw [hent]
   by_cases hkk : k = key
   ·rw [if_neg (by rw [hkk]; exact fun e => hi e.symm),if_neg (by rw [hkk]; exact fun e => hi e.symm)]
   ·rw [if_neg hkk]
 refine ⟨⟨(he _ hx).trans h.ox,ho.kept h.block (far _ (by omega) (by omega)),h.row.kept he ho (fun b _ e => far b (by omega) (by omega)),h.n,fun i hi => ?_,(he _ hk).trans h.okm,(he _ hg).trans h.ogm,h.keys.kept ho (far _ (by omega) (by omega)),h.gone.kept ho (far _ (by omega) (by omega)),h.gok,h.gsz⟩,ho.mono (fun b _ hT => hT.sh (by omega))⟩
 rw [hE i]
 by_cases hi2 : i = s.shard key
 ·rw [if_pos hi2,hi2]; exact ⟨t,ht⟩
 ·rw [if_neg hi2]
  obtain ⟨t2,ht2⟩ := h.tab i hi
  refine ⟨t2,ht2.ok.kept he ho (fun b _ hl hT => ?_),ht2.rest⟩
  have hi64 : i < 64 := by have : i < s.n := hi; omega
  have hsk64 : s.shard key < 64 := by omega
  rcases hl with z | z | ⟨k,e,z1,z2⟩
  ·rcases hT with y | y | ⟨k',_,y⟩
   ·omega
   ·omega
   ·have := Ys k'; omega
  ·rcases hT with y | y | ⟨k',_,y⟩
   ·omega
   ·omega
   ·have := Ys k'; omega
  ·have hb := Ys k
   rcases hT with y | y | ⟨k',y1,y2⟩
   ·omega
   ·omega
   ·rw [z2] at y2
    have hkk := Zbf y2
    have h1 := hzk k' y1
    rw [← hkk] at h1
    unfold Ve at z1
    split at z1
    ·rename_i e2
     exact hi2 (e2.symm.trans h1)
    ·cases z1
theorem Y4.cells {l l' : Ya} (h : Y4 own w x l s) (hb : w'.heap[x]? = some (.cells (shC l' s') 121 (0,0))) (ho : Zb (fun b => b = x) w w') (h1 : l'.tv = l.tv) (h2 : l'.tb = l.tb) (h3 : l'.km = l.km) (h4 : l'.gm = l.gm) (h5 : l'.gf = l.gf) (h6 : l'.gn = l.gn) (h7 : s'.seed = s.seed) (h8 : s'.n = s.n) (h9 : s'.ent = s.ent) (h10 : s'.keys = s.keys) (h11 : s.given ≤ s'.given) : Y4 own w' x l' s' := by
 have o1 := h.ox
 have o2 := h.okm
 have o3 := h.ogm
 have hE : ∀ i,Ve s' i = Ve s i := fun i => by unfold Ve Sh.shard; rw [h7,h8,h9]
 refine ⟨h.ox,hb,?_,by rw [h8]; exact h.n,fun i hi => ?_,by rw [h3]; exact h.okm,by rw [h4]; exact h.ogm,?_,?_,by rw [h5]; exact h.gok,by rw [h6,h10]; have := h.gsz; omega⟩
 ·rw [h1,h2,h8]
  exact h.row.kept (Yd2 _ _) ho (fun b _ e e' => by subst e'; omega)
 ·rw [h8] at hi
  obtain ⟨t,ht⟩ := h.tab i hi
  have hn := h.n
  rw [hE,h2,h7]
  refine ⟨t,ht.ok.kept (Yd2 _ _) ho (fun b _ hl e' => ?_),ht.rest⟩
  subst e'
  rcases hl with z | z | ⟨k,_,_,z⟩
  ·omega
  ·omega
  ·have := Ys k; omega
 ·rw [h3,h10]; exact h.keys.kept ho (fun e => by rw [e] at o2; omega)
 ·rw [h4,h5,h6]; exact h.gone.kept ho (fun e => by rw [e] at o3; omega)
theorem Y4.maps {l l' : Ya} {m : Nat} (h : Y4 own w x l s) (hm : m = l.km ∨ m = l.gm) (ht : w.mapTurned w' m) (hb : shC l' s' = shC l s) (h1 : l'.tb = l.tb) (hk : Zs w' l'.km (kf s'.keys) s'.keys.length) (hg : Zs w' l'.gm l'.gf l'.gn) (hok : Zjc l'.gf) (hsz : l'.gn + s'.keys.length ≤ s'.given) (h7 : s'.seed = s.seed) (h8 : s'.n = s.n) (h9 : s'.ent = s.ent) (h3 : l'.km = l.km) (h4 : l'.gm = l.gm) (h5 : l'.tv = l.tv) : Y4 own w' x l' s' ∧ Zb (ShL own) w w' := by
 have o1 := h.ox
 have o2 := h.okm
 have o3 := h.ogm
 have ho : Zb (fun b => b = m) w w' := (Yd1 _ _).turned ht (.inl rfl)
 have hom : own m = 42 ∨ own m = 43 := by rcases hm with e | e <;> rw [e] <;> omega
 have hE : ∀ i,Ve s' i = Ve s i := fun i => by unfold Ve Sh.shard; rw [h7,h8,h9]
 refine ⟨⟨h.ox,by rw [hb]; exact ho.kept h.block (fun e => by rw [← e] at hom; omega),?_,by rw [h8]; exact h.n,fun i hi => ?_,by rw [h3]; exact h.okm,by rw [h4]; exact h.ogm,hk,hg,hok,hsz⟩,ho.mono (fun b _ e => by rw [e]; exact .inl ⟨by omega,by omega⟩)⟩
 ·rw [h5,h1,h8]
  exact h.row.kept (Yd2 _ _) ho (fun b _ e e' => by rw [e'] at e; omega)
 ·rw [h8] at hi
  obtain ⟨t,ht⟩ := h.tab i hi
  have hn := h.n
  rw [hE,h1,h7]
  refine ⟨t,ht.ok.kept (Yd2 _ _) ho (fun b _ hl e' => ?_),ht.rest⟩
  rw [e'] at hl
  rcases hl with z | z | ⟨k,_,_,z⟩
  ·omega
  ·omega
  ·have := Ys k; omega
theorem Zpy {l : Ya} (h : Y4 own w x l s) : Calls Ydz 24 #[Pt x] w fun e w' => e = .returned (.int .i64 (s.n : Int)) ∧ w = w' := by
 have c1 : w.cell? ⟨x,1,none⟩ = some l.tv := Za h.block rfl
 have hn := h.n
 rcases h.row.form with ⟨_,hn0,_⟩ | ⟨g,cap,hv,_,_,_,_,_,_⟩
 ·omega
 rw [hv] at c1
 clear h hv hn
 generalize s.n = n at *
 go_enter Tryz.func24,Tryz.ntmps24
 go_wp2
 go_ret
 exact ⟨rfl,rfl⟩
theorem Zf9 {l : Ya} (h : Y4 own w x l s) (key : Int) : Calls Ydz 89 #[Pt x,.int .i64 key] w fun e w' => e = .returned (.int .i64 (s.shard key : Int)) ∧ ∃ m,w' = w.drewN m := by
 have c0 : w.cell? ⟨x,0,none⟩ = some (.int .i64 s.seed) := Za h.block rfl
 have c1 : w.cell? ⟨x,1,none⟩ = some l.tv := Za h.block rfl
 obtain ⟨hn1,hn2⟩ := h.n
 have MX : Hid (∀ W,Calls Ydz 135 #[.int .i64 s.seed,.int .i64 key] W fun e w' => e = .returned (.int .u64 (Yf s.seed key)) ∧ w' = W) := Ydy (fun W => (Zee s.seed key W).mono fun _ _ h => ⟨h.1,h.2.symm⟩)
 have hu := Zed s.seed key
 have IX : Hid (∀ W,Calls Ydz 134 #[.int .u64 (Yf s.seed key),.int .i64 2,.int .i64 (s.n : Int)] W fun e w' => e = .returned (.int .i64 (s.shard key : Int)) ∧ w' = W) := Ydy (fun W => (Zus (Yf s.seed key) hu s.n (by omega) (by omega) W).mono fun _ _ h => ⟨h.1,h.2.symm⟩)
 rcases h.row.form with ⟨_,hn0,_⟩ | ⟨g,cap,hv,_,_,_,_,_,_⟩
 ·omega
 rw [hv] at c1
 clear h hv hu
 generalize s.shard key = res at *
 generalize Yf s.seed key = mx at *
 generalize s.n = n at *
 go_enter Tryz.func89,Tryz.ntmps89
 go_wp2
 go_quiet ((first | (go_at_call 135; exact Calls.quiet_of_same (MX.out _)) | (go_at_call 134; exact Calls.quiet_of_same (IX.out _))))
 go_wp2
 go_ret
 exact ⟨rfl,_,rfl⟩
theorem Zi0 {l : Ya} (h : Y4 own w x l s) (key : Int) : s.shard key < s.n := by
 unfold Sh.shard
 exact Qo _ _ (by have := h.n.1; omega)
theorem Zr2 {g res n cap tbk : Nat} {key : Int} (c1 : w.cell? ⟨x,1,none⟩ = some (.slice (some ⟨g,0,none⟩) n cap)) (cs : w.cell? ⟨g,res,none⟩ = some (Pt tbk)) (hlt : res < n)
  (SH : Hid (∀ W,Sm w W → Calls Ydz 89 #[Pt x,.int .i64 key] W fun e w' => e = .returned (.int .i64 (res : Int)) ∧ ∃ m,w' = W.drewN m)) :
  Calls Ydz 207 #[Pt x,.int .i64 key] w fun e w' => e = .returned (Pt tbk) ∧ Sm w w' := by
 go_enter Tryz.func207,Tryz.ntmps207
 go_wp2
 go_quiet ((go_at_call 89; exact Calls.quiet_of (SH.out _ (Sm.drewN _ _))))
 go_wp2
 go_ret
 exact ⟨rfl,⟨rfl,rfl,rfl,rfl⟩⟩
theorem Zy2 {l : Ya} (h : Y4 own w x l s) (key : Int) : Calls Ydz 207 #[Pt x,.int .i64 key] w fun e w' => e = .returned (Pt (l.tb (s.shard key))) ∧ Sm w w' := by
 have c1 : w.cell? ⟨x,1,none⟩ = some l.tv := Za h.block rfl
 obtain ⟨hn1,hn2⟩ := h.n
 have hlt := Zi0 h key
 have SH : Hid (∀ W,Sm w W → Calls Ydz 89 #[Pt x,.int .i64 key] W fun e w' => e = .returned (.int .i64 (s.shard key : Int)) ∧ ∃ m,w' = W.drewN m) := Ydy (fun W hs => Zf9 (h.sm hs) key)
 generalize s.shard key = res at *
 rcases h.row.form with ⟨_,hn0,_⟩ | ⟨g,cap,hv,_,_,hcap,_,_,hcell⟩
 ·omega
 rw [hv] at c1
 exact Zr2 c1 (hcell res (Pt (l.tb res)) (by simp [hlt])) hlt SH
theorem Zcq (s : Sh) (key : Int) : Ve s (s.shard key) key = Zk s.ent key := by unfold Ve; rw [if_pos rfl]
theorem Zog {tk : Nat} {key : Int} {b : Bool} (O : Hid (∀ W,Zb No w W → Calls Ydz 207 #[Pt x,.int .i64 key] W fun e w' => e = .returned (Pt tk) ∧ Sm W w'))
  (G : Hid (∀ W,Zb No w W → Calls Ydz 208 #[Pt tk,.int .i64 key] W fun en w' => en = .returned (.tuple #[Yg e,.bool b]) ∧ Zb No W w')) :
  Calls Ydz 180 #[Pt x,.int .i64 key] w fun en w' => en = .returned (.tuple #[Yg e,.bool b]) ∧ Zb No w w' := by
 have ho : Zb No w (w.alloc (Z0 Zy)) := (Yd1 No w).alloc _
 have O1 := Ydy (O.out _ ho)
 have HO := Ydy ho
 clear ho O
 go_enter Tryz.func180,Tryz.ntmps180
 go_wp2_with fail
 refine (O1.out).mono ?_
 rintro en w1 ⟨rfl,hs⟩
 have ho1 := HO.out.trans hs.only
 have hz1 := hs.block (Zh w (Z0 Zy))
 have G1 := Ydy (G.out _ ho1)
 have HO1 := Ydy ho1
 have HZ := Ydy hz1
 clear hs ho1 hz1 G O1 HO
 unfold Yg at G1
 go_wp2_with fail
 refine (G1.out).mono ?_
 rintro en w2 ⟨rfl,ho2⟩
 obtain ⟨z0,z1,z2,z3,f0,f1,f2,f3⟩ := Yh (ho2.kept HZ.out (fun h => h))
 have HO2 := Ydy (HO1.out.trans ho2)
 clear ho2 HZ HO1 G1
 go_wp2
 refine bodyPost_ret (v:=.tuple #[Yg e,.bool b]) (by simp [results,Tryz.results180,go_sem,Yg,z0,z1,z2,z3]) rfl ⟨rfl,?_⟩
 exact (((HO2.out.setCell (.inr (Yd0 _)) _).setCell (.inr (Yd0 _)) _).setCell (.inr (Yd0 _)) _).setCell (.inr (Yd0 _)) _
theorem Yc2 {l : Ya} (h : Y4 own w x l s) (key : Int) : Calls Ydz 180 #[Pt x,.int .i64 key] w fun en w' => en = .returned (.tuple #[Yg ((Zk s.ent key).getD Zy),.bool (Zk s.ent key).isSome]) ∧ Zb No w w' := by
 have hlt := Zi0 h key
 obtain ⟨t,ht⟩ := h.tab _ hlt
 refine Zog (tk:=l.tb (s.shard key)) (Ydy fun W hW => Zy2 (h.no hW) key) (Ydy fun W hW => ?_)
 have := Zz1 (ht.ok.kept (Yd2 _ _) hW (fun _ _ _ h => h)) key
 rw [Zcq] at this
 exact this
structure Zge (s : Sh) : Prop where
 ko : Yo s.keys
 gv : s.given ≤ 60000
 e1 : ∀ k e,Zk s.ent k = some e → Zk s.keys e.n = some k ∧ 1 ≤ e.n ∧ e.n ≤ s.given
 kr : ∀ n k,Zk s.keys n = some k → 1 ≤ n ∧ n ≤ s.given
def Zc6 (own : Nat → Nat) (w : World) (x : Nat) (l : Ya) (s : Sh) (key : Int) (en : Ending) (w' : World) : Prop :=
 en = .returned (.tuple #[Yg ((Zk s.ent key).getD Zy),.bool (Zk s.ent key).isSome]) ∧ ∃ own' l',Ext w own own' ∧ Y4 own' w' x l' (s.remove key) ∧ l'.tb = l.tb ∧ Zb (ShL own) w w'
structure Aw (own : Nat → Nat) (w : World) (own' : Nat → Nat) (W : World) (x : Nat) (l : Ya) (s : Sh) (n0 n1 : Nat) (e : Ent) : Prop where
 ext : Ext w own own'
 sh : Y4 own' W x l s
 b0 : W.heap[n0]? = some (Z0 Zy)
 o0 : own' n0 = 0
 b1 : W.heap[n1]? = some (Z0 e)
 o1 : own' n1 = 0
 n0 : w.heap.size ≤ n0
 n1 : w.heap.size ≤ n1
 only : Zb (ShL own) w W
theorem Zac {b : Nat} (h : own b = 0) : ¬ ShL own b := fun e => by unfold ShL at e; omega
theorem Aw.sm {l : Ya} {n0 n1 : Nat} (h : Aw own w own' W x l s n0 n1 e) (hs : Sm W W') : Aw own w own' W' x l s n0 n1 e :=
 ⟨h.ext,h.sh.sm hs,hs.block h.b0,h.o0,hs.block h.b1,h.o1,h.n0,h.n1,h.only.trans hs.only⟩
theorem Aw.turn {l l' : Ya} {n0 n1 : Nat} (h : Aw own w own' W x l s n0 n1 e) (hs : Y4 own' W' x l' s') (ho : Zb (ShL own') W W') : Aw own w own' W' x l' s' n0 n1 e :=
 ⟨h.ext,hs,ho.kept h.b0 (Zac h.o0),h.o0,ho.kept h.b1 (Zac h.o1),h.o1,h.n0,h.n1,h.only.then ho (fun i hi hT => by unfold ShL at hT ⊢; rw [h.ext i hi] at hT; exact hT)⟩
theorem Aw.ne {l : Ya} {n0 n1 : Nat} (h : Aw own w own' W x l s n0 n1 e) : x ≠ n0 ∧ x ≠ n1 ∧ n0 ≠ x ∧ n1 ≠ x := by
 have o := h.sh.ox
 have o0 := h.o0
 have o1 := h.o1
 refine ⟨fun e => ?_,fun e => ?_,fun e => ?_,fun e => ?_⟩ <;> (subst e; omega)
theorem Zqe {l : Ya} (h : Y4 own w x l s) (key : Int) (dead : Bool) (he : Zk s.ent key = none) : Calls Ydz 211 #[Pt x,.int .i64 key,.bool dead] w (Zc6 own w x l s key) := by
 have hlt := Zi0 h key
 have hn64 := h.n
 have hE0 : Ext w own (ow1 own w) := (Yd2 w own).lab (Yd0 _) _
 have ho0 : Zb No w (w.alloc (Z0 Zy)) := (Yd1 No w).alloc _
 have h0 : Y4 (ow1 own w) (w.alloc (Z0 Zy)) x l s := h.kept hE0 ho0 (fun _ _ _ h => h)
 obtain ⟨t,ht⟩ := h0.tab _ hlt
 have O := Ydy (Zy2 h0 key)
 have hself := Zcq s key
 rw [he] at hself
 have hrem : s.remove key = s := by unfold Sh.remove; rw [he]
 have R : Hid (∀ w1,Sm (w.alloc (Z0 Zy)) w1 → Calls Ydz 223 #[Pt (l.tb (s.shard key)),.int .i64 key] w1 fun en w' => en = .returned (.tuple #[Yg Zy,.bool false]) ∧ w'.heap[w.heap.size]? = some (Z0 Zy) ∧ (∀ W,Zb (fun k => k = w.heap.size) w' W → Zc6 own w x l s key (.returned (.tuple #[Yg Zy,.bool false])) W)) := Ydy (fun w1 hs => by
  refine (Zl9 (ht.ok.sm hs |> fun k => ⟨k,ht.rest⟩) (by omega) (by omega) key).mono ?_
  rintro en w' ⟨rfl,own',t',r1,r2,r3⟩
  rw [hself]
  have hr3 : Zb (TbL (ow1 own w) (1000 + 10 * s.shard key) (fun k => (Ve s (s.shard key) k).isSome = true ∨ k = key)) w1 w' := r3.mono (fun b _ hT => by
   rcases hT with z | z | ⟨k,z1,z2⟩
   ·exact .inl z
   ·exact .inr (.inl z)
   ·exact .inr (.inr ⟨k,.inl z1,z2⟩))
  obtain ⟨q1,q2⟩ := (h0.sm hs).table (v:=none) r1 r2 hr3 hlt s.ent (fun k => by split; rename_i e; rw [e,he]; rfl)
  have q1' : Y4 own' w' x l s := q1
  have hz : (ow1 own w) w.heap.size = 0 := Zn _ _ _
  have hsz : w.heap.size < w1.heap.size := Ze (hs.block (Zh w (Z0 Zy)))
  refine ⟨rfl,q2.kept (hs.block (Zh w _)) (Zac hz),fun W hW => ⟨by rw [he]; rfl,own',l,?_,?_,rfl,?_⟩⟩
  ·exact hE0.trans ho0.size (fun b hb => r1 b (by rw [hs.size]; exact hb))
  ·rw [hrem]
   refine q1'.kept (Yd2 _ _) hW (fun b hb hl hge => ?_)
   rw [hge] at hl
   refine Zac ?_ hl
   rw [r1 _ hsz]
   exact hz
  ·refine Zb.then ?_ hW (fun i hi e => by have e' : i = w.heap.size := e; omega)
   exact (((Yd1 (ShL own) w).alloc _).trans hs.only).then q2 (fun i hi hT => by unfold ShL at hT ⊢; rw [Vh hi] at hT; exact hT))
 clear h h0 ht hE0 ho0 hlt hn64 hself hrem he
 generalize l.tb (s.shard key) = tk at *
 go_enter Tryz.func211,Tryz.ntmps211
 go_wp2_with fail
 refine (O.out).mono ?_
 rintro en w1 ⟨rfl,hs⟩
 have R1 := Ydy (R.out w1 hs)
 clear hs O R
 unfold Yg at R1
 go_wp2_with fail
 refine (R1.out).mono ?_
 rintro en w2 ⟨rfl,hz,hq⟩
 obtain ⟨z0,z1,z2,z3,f0,f1,f2,f3⟩ := Yh hz
 have l0 := Ze hz
 have y0 : w.heap.size ≠ w2.heap.size := Yeh l0
 have y1 : w2.heap.size ≠ w.heap.size := fun e => y0 e.symm
 have HQ := Ydy hq
 clear hq hz R1
 go_wp2
 refine bodyPost_ret (v:=.tuple #[Yg Zy,.bool false]) (by simp [results,Tryz.results211,go_sem,Yg,Zy,z0,z1,z2,z3,l0]) rfl ?_
 exact HQ.out _ (((((Yd3 (S:=fun k => k = w.heap.size) (Yd1 _ w2) (.inl rfl) _).setCell (.inl rfl) _).setCell (.inl rfl) _).setCell (.inl rfl) _).alloc _)
theorem Ztp (a b : Int) : ∃ z,∀ W,(binOp .sub 3 (.int .i64 a) (.int .i64 b)).run Ydz W = .ok (.int .i64 z) W := ⟨_,fun W => by simp [binOp,go_sem]; rfl⟩
theorem Zzu (a b : Int) : ∃ z,∀ W,(binOp .add 3 (.int .i64 a) (.int .i64 b)).run Ydz W = .ok (.int .i64 z) W := ⟨_,fun W => by simp [binOp,go_sem]; rfl⟩
theorem Aw.facts {l : Ya} {n0 n1 : Nat} (h : Aw own w own' W x l s n0 n1 e) :
  W.cell? ⟨x,3,none⟩ = some (.map (some l.km)) ∧ W.cell? ⟨x,4,none⟩ = some (.map (some l.gm)) ∧ W.cell? ⟨x,5,none⟩ = some (.int .i64 l.wt) ∧ W.frozen? ⟨x,5,none⟩ = false ∧ W.cell? ⟨n1,2,none⟩ = some (.int .i64 e.w) ∧ W.cell? ⟨n1,3,none⟩ = some (.int .i64 e.n) :=
 ⟨Za h.sh.block rfl,Za h.sh.block rfl,Za h.sh.block rfl,Zc h.sh.block _,Za h.b1 rfl,Za h.b1 rfl⟩
def Zpx (s : Sh) (n : Int) : Sh := { s with keys := Xe s.keys n }
theorem Aw.del {l : Ya} {n0 n1 : Nat} (h : Aw own w own' W x l s n0 n1 e) (hk : Yo s.keys) (hin : (Zk s.keys e.n).isSome = true) (hm : Zs W' l.km (upd (kf s.keys) e.n none) (if (kf s.keys e.n).isSome then s.keys.length - 1 else s.keys.length)) (ht : W.mapTurned W' l.km) : Aw own w own' W' x l (Zpx s e.n) n0 n1 e := by
 have hl := Qk hk e.n
 rw [if_pos hin] at hl
 have h1 : Zs W' l.km (kf (Xe s.keys e.n)) (Xe s.keys e.n).length := by
  have := hm.eq (g:=kf (Xe s.keys e.n)) (fun i _ => Znq _ _ _)
  rw [Kw,← Qk hk] at this
  exact this
 have hne : l.gm ≠ l.km := fun ee => by have a := h.sh.okm; have b := h.sh.ogm; rw [ee] at b; omega
 obtain ⟨q1,q2⟩ := h.sh.maps (l':=l) (s':=Zpx s e.n) (.inl rfl) ht rfl rfl h1 (h.sh.gone.of_block (Yq ht hne)) h.sh.gok (by have := h.sh.gsz; show l.gn + (Xe s.keys e.n).length ≤ s.given; omega) rfl rfl rfl rfl rfl rfl
 exact h.turn q1 q2
theorem Aw.gone {l : Ya} {n0 n1 : Nat} {dead : Bool} (h : Aw own w own' W x l s n0 n1 e) (hroom : l.gn + s.keys.length + 1 ≤ s.given) (hm : Zs W' l.gm (upd l.gf e.n (some (.bool dead))) (if (l.gf e.n).isSome then l.gn else l.gn + 1)) (ht : W.mapTurned W' l.gm) : Aw own w own' W' x { l with gf := upd l.gf e.n (some (.bool dead)),gn := if (l.gf e.n).isSome then l.gn else l.gn + 1 } s n0 n1 e := by
 have hne : l.km ≠ l.gm := fun ee => by have a := h.sh.okm; have b := h.sh.ogm; rw [ee] at a; omega
 have hgsz := h.sh.gsz
 obtain ⟨q1,q2⟩ := h.sh.maps (l':={ l with gf := upd l.gf e.n (some (.bool dead)),gn := if (l.gf e.n).isSome then l.gn else l.gn + 1 }) (s':=s) (.inr rfl) ht rfl rfl (h.sh.keys.of_block (Yq ht hne)) hm (fun k hk => by
  by_cases ek : k = e.n
  ·exact .inr ⟨dead,by show upd l.gf e.n _ k = _; rw [ek,Za4]⟩
  ·show upd l.gf e.n _ k = none ∨ ∃ b,upd l.gf e.n _ k = _
   rw [Jk ek]; exact h.sh.gok k hk) (by show (if (l.gf e.n).isSome = true then l.gn else l.gn + 1) + s.keys.length ≤ s.given; split <;> omega) rfl rfl rfl rfl rfl rfl
 exact h.turn q1 q2
theorem Aw.weight {l : Ya} {n0 n1 : Nat} (h : Aw own w own' W x l s n0 n1 e) (n : Int) : Aw own w own' (W.setCell ⟨x,5,none⟩ (.int .i64 n)) x { l with wt := n } s n0 n1 e := by
 have o1 := h.sh.ox
 have ho : Zb (fun b => b = x) W (W.setCell ⟨x,5,none⟩ (.int .i64 n)) := Yd3 (S:=fun b => b = x) (Yd1 _ W) (.inl rfl) _
 refine h.turn (h.sh.cells (l':={ l with wt := n }) (s':=s) (Zj h.sh.block 5 _) ho rfl rfl rfl rfl rfl rfl rfl rfl rfl rfl (Yd0 _)) (ho.mono (fun b _ e => by rw [e]; exact .inl ⟨by omega,by omega⟩))
theorem Aw.fin {l : Ya} {n0 n1 : Nat} (h : Aw own w own' W x l s n0 n1 e) (hW : Zb (fun k => k = n0) W Wf) : Ext w own own' ∧ Y4 own' Wf x l s ∧ Zb (ShL own) w Wf :=
 ⟨h.ext,h.sh.kept (Yd2 _ _) hW (fun b _ hl e' => by rw [e'] at hl; exact Zac h.o0 hl),h.only.then hW (fun i hi e' => by have := h.n0; have e2 : i = n0 := e'; omega)⟩
theorem Ztl {l : Ya} (h : Y4 own w x l s) (ok : Zge s) (key : Int) (dead : Bool) (he : Zk s.ent key = some e) : Calls Ydz 211 #[Pt x,.int .i64 key,.bool dead] w (Zc6 own w x l s key) := by
 have hlt := Zi0 h key
 have hn64 := h.n
 obtain ⟨k1,k2,k3⟩ := ok.e1 _ _ he
 have hgv := ok.gv
 have hin : (Zk s.keys e.n).isSome = true := by rw [k1]; rfl
 have hroom : l.gn + (Xe s.keys e.n).length + 1 ≤ s.given := by
  have := Qk ok.ko e.n
  rw [if_pos hin] at this
  have h1 := h.gsz
  have : 0 < s.keys.length := by
   cases hk : s.keys with
   | nil => rw [hk] at k1; simp [Zk] at k1
   | cons _ _ => simp
  omega
 have hi : I64 e.n := ⟨by omega,by omega⟩
 have hE0 : Ext w own (ow1 own w) := (Yd2 w own).lab (Yd0 _) _
 have ho0 : Zb No w (w.alloc (Z0 Zy)) := (Yd1 No w).alloc _
 have h0 : Y4 (ow1 own w) (w.alloc (Z0 Zy)) x l s := h.kept hE0 ho0 (fun _ _ _ h => h)
 obtain ⟨t,ht⟩ := h0.tab _ hlt
 have O := Ydy (Zy2 h0 key)
 have hself := Zcq s key
 rw [he] at hself
 have hrem : s.remove key = Zpx { s with ent := Xe s.ent key } e.n := by unfold Sh.remove; rw [he]; rfl
 have R : Hid (∀ w1,Sm (w.alloc (Z0 Zy)) w1 → Calls Ydz 223 #[Pt (l.tb (s.shard key)),.int .i64 key] w1 fun en w' => en = .returned (.tuple #[Yg e,.bool true]) ∧ w.heap.size < w'.heap.size ∧ ∃ own',Aw own w own' (w'.alloc (Z0 e)) x l { s with ent := Xe s.ent key } w.heap.size w'.heap.size e) := Ydy (fun w1 hs => by
  refine (Zl9 (ht.ok.sm hs |> fun k => ⟨k,ht.rest⟩) (by omega) (by omega) key).mono ?_
  rintro en w' ⟨rfl,own',t',r1,r2,r3⟩
  rw [hself]
  have hr3 : Zb (TbL (ow1 own w) (1000 + 10 * s.shard key) (fun k => (Ve s (s.shard key) k).isSome = true ∨ k = key)) w1 w' := r3.mono (fun b _ hT => by
   rcases hT with z | z | ⟨k,z1,z2⟩
   ·exact .inl z
   ·exact .inr (.inl z)
   ·exact .inr (.inr ⟨k,.inl z1,z2⟩))
  obtain ⟨q1,q2⟩ := (h0.sm hs).table (v:=none) r1 r2 hr3 hlt (Xe s.ent key) (fun k => Xp _ _ _)
  have hz : (ow1 own w) w.heap.size = 0 := Zn _ _ _
  have hsz : w.heap.size < w1.heap.size := Ze (hs.block (Zh w (Z0 Zy)))
  have hsz2 : w.heap.size < w'.heap.size := Nat.lt_of_lt_of_le hsz q2.size
  have hE : Ext w own own' := hE0.trans ho0.size (fun b hb => r1 b (by rw [hs.size]; exact hb))
  refine ⟨rfl,hsz2,lab own' w'.heap.size 0,hE.lab (Nat.le_of_lt hsz2) _,q1.kept ((Yd2 w' own').lab (Yd0 _) _) ((Yd1 No w').alloc _) (fun _ _ _ h => h),Zm (q2.kept (hs.block (Zh w _)) (Zac hz)),?_,Zh w' _,Zn _ _ _,Yd0 _,Nat.le_of_lt hsz2,?_⟩
  ·rw [Zq (by omega),r1 _ hsz,hz]
  ·exact ((((Yd1 (ShL own) w).alloc _).trans hs.only).then q2 (fun i hi hT => by unfold ShL at hT ⊢; rw [Vh hi] at hT; exact hT)).alloc _)
 have HKO := Ydy ok.ko
 have HG := Ydy (And.intro hroom hgv)
 have HRV : Hid ((.tuple #[Yg ((Zk s.ent key).getD Zy),.bool (Zk s.ent key).isSome] : Value) = .tuple #[Yg e,.bool true] ∧ s.remove key = Zpx { s with ent := Xe s.ent key } e.n) := Ydy ⟨by rw [he]; rfl,hrem⟩
 have HIN := Ydy hin
 clear h h0 ht hE0 ho0 hlt hn64 hself hrem he ok k1 k2 k3 hroom hgv hin
 generalize l.tb (s.shard key) = tk at *
 go_enter Tryz.func211,Tryz.ntmps211
 go_wp2_with fail
 refine (O.out).mono ?_
 rintro en w1 ⟨rfl,hs⟩
 have R1 := Ydy (R.out w1 hs)
 clear hs O R
 unfold Yg at R1
 go_wp2_with fail
 refine (R1.out).mono ?_
 rintro en w2 ⟨rfl,l0,own2,A2⟩
 have HA2 := Ydy A2
 clear A2 R1
 go_wp2
 refine Z4 6 (by kernel_rfl) (by kernel_rfl) ?_
 intro W4 hc4 hf4 hs4 HW4
 have A4 := HA2.out.sm (W':=W4) (by rw [← HW4.out]; exact ⟨rfl,rfl,rfl,rfl⟩)
 obtain ⟨x3,x4,x5,xf,n2,n3⟩ := A4.facts
 have HA4 := Ydy A4
 have HK := Ydy A4.sh.keys
 clear A4 hc4 hf4 hs4 HW4 HA2
 simp only [Yd5,Yd7,Yd4,Yd6]
 iterate 6 still_step
 refine wpStill_nil ?_
 go_wp2_with (refine J8 (by rfl) (t:=60) (by rfl) (e:=3) Yec (b:=l.km) (by rfl) HK.out (k:=e.n) (by rfl) hi ?_; intro w5 hm htt; have HM := Ydy hm; have HT := Ydy htt; clear hm htt)
 have A5 := HA4.out.del HKO.out HIN.out HM.out HT.out
 have HA5 := Ydy A5
 clear A5 HM HT HK HA4 x3 x4 x5 xf n2 n3 HIN HKO
 refine Z4 7 (by kernel_rfl) (by kernel_rfl) ?_
 intro W6 hc6 hf6 hs6 HW6
 have A6 := HA5.out.sm (W':=W6) (by rw [← HW6.out]; exact ⟨rfl,rfl,rfl,rfl⟩)
 obtain ⟨x3,x4,x5,xf,n2,n3⟩ := A6.facts
 have HA6 := Ydy A6
 have HK := Ydy A6.sh.gone
 have HSZ : Hid (l.gn < 1000000) := Ydy (by have := A6.sh.gsz; have h2 := HG.out.1; have h3 := HG.out.2; omega)
 clear A6 hc6 hf6 hs6 HW6 HA5
 simp only [Yd5,Yd7,Yd4,Yd6]
 iterate 7 still_step
 refine wpStill_nil ?_
 go_wp2_with (refine Y0 (by rfl) (t:=118) (by rfl) (e:=4) Yeb (b:=l.gm) (by rfl) HK.out HSZ.out (k:=e.n) (val:=.bool dead) (by rfl) (by rfl) hi ?_; intro w7 hm htt; have HM := Ydy hm; have HT := Ydy htt; clear hm htt)
 have A7 := HA6.out.gone (dead:=dead) HG.out.1 HM.out HT.out
 have HA7 := Ydy A7
 clear A7 HM HT HK HA6 x3 x4 x5 xf n2 n3 HSZ HG
 refine Z4 9 (by kernel_rfl) (by kernel_rfl) ?_
 intro W8 hc8 hf8 hs8 HW8
 have A8 := HA7.out.sm (W':=W8) (by rw [← HW8.out]; exact ⟨rfl,rfl,rfl,rfl⟩)
 obtain ⟨x3,x4,x5,xf,n2,n3⟩ := A8.facts
 obtain ⟨z,hz⟩ := Ztp l.wt e.w
 have HZ := Ydy hz
 have HA9 := Ydy (A8.weight z)
 obtain ⟨y0,y1,y2,y3⟩ := A8.ne
 have l1 := Ze A8.b0
 have l2 := Ze A8.b1
 have HN : Hid (w.heap.size ≠ w2.heap.size) := Ydy (Yeh l0)
 clear A8 hc8 hf8 hs8 HW8 HA7 hz
 simp only [Yd5,Yd7,Yd4,Yd6]
 iterate 6 still_step
 refine Xg rfl _ _ rfl rfl rfl rfl (HZ.out _) ?_
 simp only [Act.put]
 iterate 2 still_step
 refine wpStill_nil ?_
 obtain ⟨b0,b1,b2,b3,bf0,bf1,bf2,bf3⟩ := Yh HA9.out.b0
 obtain ⟨e0,e1,e2,e3,_⟩ := Yh HA9.out.b1
 go_wp2
 refine bodyPost_ret (v:=.tuple #[Yg e,.bool true]) (by simp [results,Tryz.results211,go_sem,Yg,b0,b1,b2,b3]) rfl ?_
 rw [← HRV.out.1]
 have HF : ∀ Wf,Zb (fun k => k = w.heap.size) (W8.setCell ⟨x,5,none⟩ (.int .i64 z)) Wf → Zc6 own w x l s key (.returned (.tuple #[Yg ((Zk s.ent key).getD Zy),.bool (Zk s.ent key).isSome])) Wf := fun Wf hW => by
  obtain ⟨q1,q2,q3⟩ := HA9.out.fin hW
  exact ⟨rfl,own2,_,q1,HRV.out.2 ▸ q2,by rfl,q3⟩
 exact HF _ ((((Yd3 (S:=fun k => k = w.heap.size) (Yd1 _ _) (.inl rfl) _).setCell (.inl rfl) _).setCell (.inl rfl) _).setCell (.inl rfl) _)
theorem Zwb {l : Ya} (h : Y4 own w x l s) (ok : Zge s) (key : Int) (dead : Bool) : Calls Ydz 211 #[Pt x,.int .i64 key,.bool dead] w (Zc6 own w x l s key) := by
 cases he : Zk s.ent key with
 | none => exact Zqe h key dead he
 | some e => exact Ztl h ok key dead he
theorem Zc6.back {l : Ya} {key : Int} {en : Ending} (h : Zc6 (ow1 own w) (w.alloc (Z0 Zy)) x l s key en w') : en = .returned (.tuple #[Yg ((Zk s.ent key).getD Zy),.bool (Zk s.ent key).isSome]) ∧ w'.heap[w.heap.size]? = some (Z0 Zy) ∧ ∀ Wf,Zb (fun k => k = w.heap.size) w' Wf → Zc6 own w x l s key en Wf := by
 obtain ⟨h1,own',l',h2,h3,h4,h5⟩ := h
 have hE0 : Ext w own (ow1 own w) := (Yd2 w own).lab (Yd0 _) _
 have hz : ow1 own w w.heap.size = 0 := Zn _ _ _
 have hb := Zh w (Z0 Zy)
 refine ⟨h1,h5.kept hb (Zac hz),fun Wf hW => ⟨h1,own',l',?_,h3.kept (Yd2 _ _) hW (fun b _ hl e => ?_),h4,?_⟩⟩
 ·exact hE0.trans (by simp) h2
 ·rw [e] at hl
  exact Zac (by rw [h2 _ (Ze hb),hz]) hl
 ·refine Zb.then ?_ hW (fun i hi e => by have e2 : i = w.heap.size := e; omega)
  exact ((Yd1 (ShL own) w).alloc _).then h5 (fun i hi hT => by unfold ShL at hT ⊢; rw [Vh hi] at hT; exact hT)
theorem Zhd {l : Ya} (h : Y4 own w x l s) (o : Obj) : Y4 (ow1 own w) (w.alloc o) x l s := h.kept ((Yd2 w own).lab (Yd0 _) _) ((Yd1 No w).alloc _) (fun _ _ _ h => h)
theorem Zwc {l : Ya} (h : Y4 own w x l s) (ok : Zge s) (key : Int) : Calls Ydz 183 #[Pt x,.int .i64 key] w (Zc6 own w x l s key) := by
 have A : Hid (Calls Ydz 211 #[Pt x,.int .i64 key,.bool false] (w.alloc (Z0 Zy)) fun en w' => en = .returned (.tuple #[Yg ((Zk s.ent key).getD Zy),.bool (Zk s.ent key).isSome]) ∧ w'.heap[w.heap.size]? = some (Z0 Zy) ∧ ∀ Wf,Zb (fun k => k = w.heap.size) w' Wf → Zc6 own w x l s key en Wf) := Ydy ((Zwb (Zhd h (Z0 Zy)) ok key false).mono fun _ _ q => q.back)
 clear h ok
 generalize (Zk s.ent key).getD Zy = e at *
 generalize (Zk s.ent key).isSome = b at *
 unfold Yg at A
 go_enter Tryz.func183,Tryz.ntmps183
 go_wp2_with fail
 refine (A.out).mono ?_
 rintro en w1 ⟨rfl,hz,hq⟩
 obtain ⟨z0,z1,z2,z3,f0,f1,f2,f3⟩ := Yh hz
 have HQ := Ydy hq
 clear hz hq A
 go_wp2
 refine bodyPost_ret (v:=.tuple #[Yg e,.bool b]) (by simp [results,Tryz.results183,go_sem,Yg,z0,z1,z2,z3]) rfl ?_
 exact HQ.out _ ((((Yd3 (S:=fun k => k = w.heap.size) (Yd1 _ _) (.inl rfl) _).setCell (.inl rfl) _).setCell (.inl rfl) _).setCell (.inl rfl) _)
def Zmm (own : Nat → Nat) (w : World) (x : Nat) (l : Ya) (s : Sh) (node : Int) (en : Ending) (w' : World) : Prop :=
 en = .returned (.tuple #[Yg ((s.evict node).2.getD Zy),.bool (s.evict node).2.isSome]) ∧ ∃ own' l',Ext w own own' ∧ Y4 own' w' x l' (s.evict node).1 ∧ l'.tb = l.tb ∧ Zb (ShL own) w w'
theorem Zy1 {l : Ya} (h : Y4 own w x l s) (ok : Zge s) (node : Int) (hi : I64 node) : Calls Ydz 188 #[Pt x,.int .i64 node] w (Zmm own w x l s node) := by
 have h0 := Zhd h (Z0 Zy)
 have c3 : w.cell? ⟨x,3,none⟩ = some (.map (some l.km)) := Za h.block rfl
 have hEO : Z0 Zy = .cells #[.int .i64 0,.int .i64 0,.int .i64 0,.int .i64 0] 115 := rfl
 have y0 : x ≠ w.heap.size := Yeh (Ze h.block)
 have y1 : w.heap.size ≠ x := fun e => y0 e.symm
 have L : (Instr.lookup 60 (.map (some l.km)) (.int .i64 node) true).run Ydz (w.alloc (Z0 Zy)) = .ok (.tuple #[(kf s.keys node).getD (.int .i64 0),.bool (kf s.keys node).isSome]) (w.alloc (Z0 Zy)) := h0.keys.look Yec (Zjb _) hi
 have hz : (w.alloc (Z0 Zy)).heap[w.heap.size]? = some (Z0 Zy) := Zh w _
 have hxl : x < w.heap.size := Ze h.block
 cases hk : Zk s.keys node with
 | none =>
  have hev : s.evict node = (s,none) := by unfold Sh.evict; rw [hk]
  have hkf : kf s.keys node = none := by unfold kf; rw [hk]; rfl
  rw [hkf] at L
  have HX : Hid (∀ Wf,Zb (fun k => k = w.heap.size) (w.alloc (Z0 Zy)) Wf → Zmm own w x l s node (.returned (.tuple #[Yg Zy,.bool false])) Wf) := Ydy (fun Wf hW => by
   have hzo : ow1 own w w.heap.size = 0 := Zn _ _ _
   refine ⟨by rw [hev]; rfl,ow1 own w,l,(Yd2 w own).lab (Yd0 _) _,?_,rfl,((Yd1 (ShL own) w).alloc _).then hW (fun i hi e => by have e2 : i = w.heap.size := e; omega)⟩
   rw [hev]
   exact h0.kept (Yd2 _ _) hW (fun b _ hl e => by rw [e] at hl; exact Zac hzo hl))
  clear h h0 ok hz hev hkf hk
  rw [hEO] at L HX
  go_enter Tryz.func188,Tryz.ntmps188
  go_wp2
  refine bodyPost_ret (v:=.tuple #[Yg Zy,.bool false]) (by simp [results,Tryz.results188,go_sem,Yg,Zy]) rfl ?_
  exact HX.out _ (by
   first
    | exact Yd1 _ _
    | exact (((Yd3 (S:=fun k => k = w.heap.size) (Yd1 _ _) (.inl rfl) _).setCell (.inl rfl) _).setCell (.inl rfl) _).setCell (.inl rfl) _)
 | some key =>
  have hev : s.evict node = (s.remove key,Zk s.ent key) := by unfold Sh.evict; rw [hk]
  have hkf : kf s.keys node = some (.int .i64 key) := by unfold kf; rw [hk]; rfl
  rw [hkf] at L
  have A : Hid (Calls Ydz 211 #[Pt x,.int .i64 key,.bool true] (w.alloc (Z0 Zy)) fun en w' => en = .returned (.tuple #[Yg ((s.evict node).2.getD Zy),.bool (s.evict node).2.isSome]) ∧ w'.heap[w.heap.size]? = some (Z0 Zy) ∧ ∀ Wf,Zb (fun k => k = w.heap.size) w' Wf → Zmm own w x l s node en Wf) := Ydy ((Zwb h0 ok key true).mono fun en w' q => by
   obtain ⟨q1,q2,q3⟩ := q.back
   refine ⟨by rw [q1,hev],q2,fun Wf hW => ?_⟩
   obtain ⟨r1,own',l',r2,r3,r4,r5⟩ := q3 Wf hW
   exact ⟨by rw [r1,hev],own',l',r2,by rw [hev]; exact r3,r4,r5⟩)
  clear h h0 ok hz hev hkf hk
  generalize (s.evict node).2.getD Zy = e at *
  generalize (s.evict node).2.isSome = b at *
  rw [hEO] at L A
  unfold Yg at A
  go_enter Tryz.func188,Tryz.ntmps188
  go_wp2_with fail
  refine (A.out).mono ?_
  rintro en w1 ⟨rfl,hz,hq⟩
  obtain ⟨z0,z1,z2,z3,f0,f1,f2,f3⟩ := Yh hz
  have HQ := Ydy hq
  clear hz hq A
  go_wp2
  refine bodyPost_ret (v:=.tuple #[Yg e,.bool b]) (by simp [results,Tryz.results188,go_sem,Yg,z0,z1,z2,z3]) rfl ?_
  exact HQ.out _ ((((Yd3 (S:=fun k => k = w.heap.size) (Yd1 _ _) (.inl rfl) _).setCell (.inl rfl) _).setCell (.inl rfl) _).setCell (.inl rfl) _)
def Zjn (l : Ya) (node : Int) : Bool := match l.gf node with | some (.bool b) => b | _ => false
def Zbo (l : Ya) (s : Sh) (node : Int) : Int := if node < 1 ∨ (s.given : Int) < node then 0 else if (l.gf node).isSome = false then 1 else if Zjn l node then 3 else 2
theorem Ydf (w : World) : (zeroValue 4).run Ydz w = .ok (.bool false) w := by kernel_rfl
theorem Zuk {l : Ya} (h : Zjc l.gf) {k : Int} (hk : I64 k) : (l.gf k).getD (.bool false) = .bool (Zjn l k) := by
 rcases h k hk with e | ⟨b,e⟩
 ·unfold Zjn; rw [e]; rfl
 ·unfold Zjn; rw [e]; rfl
theorem Zoi {gm : Nat} {node gv st : Int} {dead is : Bool} (c2 : w.cell? ⟨x,2,none⟩ = some (.int .i64 gv)) (c4 : w.cell? ⟨x,4,none⟩ = some (.map (some gm))) (L : (Instr.lookup 118 (.map (some gm)) (.int .i64 node) true).run Ydz w = .ok (.tuple #[.bool dead,.bool is]) w) (hst : st = if node < 1 ∨ gv < node then 0 else if is = false then 1 else if dead then 3 else 2) :
  Calls Ydz 212 #[Pt x,.int .i64 node] w fun e w' => e = .returned (.int .i64 st) ∧ w = w' := by
 subst hst
 by_cases h1 : node < 1
 ·have d1 : decide (node < 1) = true := by simpa using h1
  rw [if_pos (.inl h1)]
  go_enter Yea,Yd9
  go_wp2
  go_ret
  exact ⟨rfl,rfl⟩
 ·have d1 : decide (node < 1) = false := by simpa using h1
  by_cases h2 : gv < node
  ·have d2 : decide (gv < node) = true := by simpa using h2
   rw [if_pos (.inr h2)]
   go_enter Yea,Yd9
   go_wp2
   go_ret
   exact ⟨rfl,rfl⟩
  ·have d2 : decide (gv < node) = false := by simpa using h2
   rw [if_neg (fun e => e.elim h1 h2)]
   cases is
   ·rw [if_pos rfl]
    clear h1 h2
    go_enter Yea,Yd9
    go_wp2
    go_ret
    exact ⟨rfl,rfl⟩
   ·rw [if_neg (by simp)]
    clear h1 h2
    cases dead
    ·rw [if_neg (by simp)]
     go_enter Yea,Yd9
     go_wp2
     go_ret
     exact ⟨rfl,rfl⟩
    ·rw [if_pos rfl]
     go_enter Yea,Yd9
     go_wp2
     go_ret
     exact ⟨rfl,rfl⟩
theorem Zy3 {l : Ya} (h : Y4 own w x l s) (node : Int) (hi : I64 node) : Calls Ydz 212 #[Pt x,.int .i64 node] w fun e w' => e = .returned (.int .i64 (Zbo l s node)) ∧ w = w' := by
 have L := h.gone.look (t:=118) (e:=4) Yeb (Ydf w) hi
 rw [Zuk h.gok hi] at L
 exact Zoi (Za h.block rfl) (Za h.block rfl) L rfl
def Zsr (own : Nat → Nat) (w : World) (x : Nat) (l : Ya) (s : Sh) (en : Ending) (w' : World) : Prop := ∃ n l',en = .returned (.int .i64 n) ∧ Y4 own w' x l' s ∧ l'.tb = l.tb ∧ Zb (ShL own) w w'
theorem Ybf {l : Ya} (h : Y4 own w x l s) (hgv : s.given ≤ 60000) (node : Int) (hi : I64 node) : Calls Ydz 187 #[Pt x,.int .i64 node] w (Zsr own w x l s) := by
 have ST := Ydy (Zy3 h node hi)
 have c4 : w.cell? ⟨x,4,none⟩ = some (.map (some l.gm)) := Za h.block rfl
 have HS : Hid (∀ n : Int,Zsr own w x l s (.returned (.int .i64 n)) w) := Ydy (fun n => ⟨n,l,rfl,h,rfl,Yd1 _ _⟩)
 have HG := Ydy h.gone
 have hsz := h.gsz
 have hgn : l.gn < 1000000 := by omega
 by_cases h2 : Zbo l s node = 2
 ·have hsome : (l.gf node).isSome = true := by
   unfold Zbo at h2
   split at h2
   ·omega
   ·split at h2
    ·omega
    ·rename_i hh; cases hq : (l.gf node).isSome <;> simp_all
  have HX : Hid (∀ w' n,Zs w' l.gm (upd l.gf node (some (.bool true))) (if (l.gf node).isSome then l.gn else l.gn + 1) → w.mapTurned w' l.gm → Zsr own w x l s (.returned (.int .i64 n)) w') := Ydy (fun w' n hm ht => by
   rw [if_pos hsome] at hm
   have hne : l.km ≠ l.gm := fun ee => by have a := h.okm; have b := h.ogm; rw [ee] at a; omega
   obtain ⟨q1,q2⟩ := h.maps (l':={ l with gf := upd l.gf node (some (.bool true)) }) (s':=s) (.inr rfl) ht rfl rfl (h.keys.of_block (Yq ht hne)) hm (fun k hk => by
    by_cases ek : k = node
    ·exact .inr ⟨true,by show upd l.gf node _ k = _; rw [ek,Za4]⟩
    ·show upd l.gf node _ k = none ∨ ∃ b,upd l.gf node _ k = _
     rw [Jk ek]; exact h.gok k hk) h.gsz rfl rfl rfl rfl rfl rfl
   exact ⟨n,_,rfl,q1,rfl,q2⟩)
  rw [h2] at ST
  clear h hsz hsome h2 HS
  go_enter Yej,Yef
  go_wp2_with fail
  refine (ST.out).mono ?_
  rintro e w' ⟨rfl,rfl⟩
  go_wp2_with (refine Y0 (by rfl) (t:=118) (by rfl) (e:=4) Yeb (b:=l.gm) (by rfl) HG.out hgn (k:=node) (val:=.bool true) (by rfl) (by rfl) hi ?_; intro w7 hm htt; have HM := Ydy hm; have HT := Ydy htt; clear hm htt)
  go_ret
  exact HX.out _ _ HM.out HT.out
 ·have d2 : (Zbo l s node == 2) = false := by simpa using h2
  clear h hsz h2 HG
  by_cases h3 : Zbo l s node = 3
  ·have d3 : (Zbo l s node == 3) = true := by simpa using h3
   generalize Zbo l s node = st at *
   clear h3
   go_enter Yej,Yef
   go_wp2_with fail
   refine (ST.out).mono ?_
   rintro e w' ⟨rfl,rfl⟩
   go_wp2
   go_ret
   exact HS.out _
  ·have d3 : (Zbo l s node == 3) = false := by simpa using h3
   generalize Zbo l s node = st at *
   clear h3
   go_enter Yej,Yef
   go_wp2_with fail
   refine (ST.out).mono ?_
   rintro e w' ⟨rfl,rfl⟩
   go_wp2
   go_ret
   exact HS.out _
structure Pu (own : Nat → Nat) (w : World) (own' : Nat → Nat) (W : World) (x : Nat) (l : Ya) (s : Sh) (n0 n1 n2 : Nat) (a b c : Ent) : Prop where
 ext : Ext w own own'
 sh : Y4 own' W x l s
 b0 : W.heap[n0]? = some (Z0 a)
 o0 : own' n0 = 0
 b1 : W.heap[n1]? = some (Z0 b)
 o1 : own' n1 = 0
 b2 : W.heap[n2]? = some (Z0 c)
 o2 : own' n2 = 0
 lt : w.heap.size ≤ n0 ∧ n0 < n1 ∧ n1 < n2
 only : Zb (ShL own) w W
theorem Pu.sm {l : Ya} {n0 n1 : Nat} (h : Pu own w own' W x l s n0 n1 n2 a b c) (hs : Sm W W') : Pu own w own' W' x l s n0 n1 n2 a b c :=
 ⟨h.ext,h.sh.sm hs,hs.block h.b0,h.o0,hs.block h.b1,h.o1,hs.block h.b2,h.o2,h.lt,h.only.trans hs.only⟩
theorem Pu.turn {own2 : Nat → Nat} {l l' : Ya} {n0 n1 : Nat} (h : Pu own w own' W x l s n0 n1 n2 a b c) (he : Ext W own' own2) (hs : Y4 own2 W' x l' s') (ho : Zb (ShL own') W W') : Pu own w own2 W' x l' s' n0 n1 n2 a b c :=
 ⟨h.ext.trans h.only.size he,hs,ho.kept h.b0 (Zac h.o0),(he _ (Ze h.b0)).trans h.o0,ho.kept h.b1 (Zac h.o1),(he _ (Ze h.b1)).trans h.o1,ho.kept h.b2 (Zac h.o2),(he _ (Ze h.b2)).trans h.o2,h.lt,h.only.then ho (fun i hi hT => by unfold ShL at hT ⊢; rw [h.ext i hi] at hT; exact hT)⟩
theorem Pu.node {l : Ya} {n0 n1 : Nat} (h : Pu own w own' W x l s n0 n1 n2 a b c) (n : Int) : Pu own w own' (W.setCell ⟨n1,3,none⟩ (.int .i64 n)) x l s n0 n1 n2 a { b with n := n } c := by
 have ho : Zb (fun k => k = n1) W (W.setCell ⟨n1,3,none⟩ (.int .i64 n)) := Yd3 (S:=fun k => k = n1) (Yd1 _ W) (.inl rfl) _
 have hlt := h.lt
 refine ⟨h.ext,h.sh.kept (Yd2 _ _) ho (fun k _ hl e => by rw [e] at hl; exact Zac h.o1 hl),ho.kept h.b0 (fun e => by omega),h.o0,Zj h.b1 3 _,h.o1,ho.kept h.b2 (fun e => by omega),h.o2,h.lt,h.only.then ho (fun i hi e => by have e2 : i = n1 := e; omega)⟩
theorem Pu.facts {l : Ya} {n0 n1 : Nat} (h : Pu own w own' W x l s n0 n1 n2 a b c) :
  (W.cell? ⟨x,2,none⟩ = some (.int .i64 (s.given : Int)) ∧ W.frozen? ⟨x,2,none⟩ = false) ∧ W.cell? ⟨x,3,none⟩ = some (.map (some l.km)) ∧ (W.cell? ⟨x,5,none⟩ = some (.int .i64 l.wt) ∧ W.frozen? ⟨x,5,none⟩ = false) ∧
  (W.cell? ⟨n1,0,none⟩ = some (.int .i64 b.k) ∧ W.cell? ⟨n1,1,none⟩ = some (.int .i64 b.v) ∧ W.cell? ⟨n1,2,none⟩ = some (.int .i64 b.w) ∧ W.cell? ⟨n1,3,none⟩ = some (.int .i64 b.n) ∧ W.frozen? ⟨n1,3,none⟩ = false) ∧
  (W.cell? ⟨n2,0,none⟩ = some (.int .i64 c.k) ∧ W.cell? ⟨n2,1,none⟩ = some (.int .i64 c.v) ∧ W.cell? ⟨n2,2,none⟩ = some (.int .i64 c.w) ∧ W.cell? ⟨n2,3,none⟩ = some (.int .i64 c.n)) :=
 ⟨⟨Za h.sh.block rfl,Zc h.sh.block _⟩,Za h.sh.block rfl,⟨Za h.sh.block rfl,Zc h.sh.block _⟩,⟨Za h.b1 rfl,Za h.b1 rfl,Za h.b1 rfl,Za h.b1 rfl,Zc h.b1 _⟩,⟨Za h.b2 rfl,Za h.b2 rfl,Za h.b2 rfl,Za h.b2 rfl⟩⟩
theorem Pu.ne {l : Ya} {n0 n1 : Nat} (h : Pu own w own' W x l s n0 n1 n2 a b c) : x ≠ n0 ∧ x ≠ n1 ∧ x ≠ n2 ∧ n0 ≠ x ∧ n1 ≠ x ∧ n2 ≠ x ∧ n0 ≠ n1 ∧ n1 ≠ n0 ∧ n0 ≠ n2 ∧ n2 ≠ n0 ∧ n1 ≠ n2 ∧ n2 ≠ n1 := by
 have o := h.sh.ox
 have o0 := h.o0
 have o1 := h.o1
 have o2 := h.o2
 have hlt := h.lt
 refine ⟨fun e => ?_,fun e => ?_,fun e => ?_,fun e => ?_,fun e => ?_,fun e => ?_,?_,?_,?_,?_,?_,?_⟩
 any_goals omega
 all_goals (subst e; omega)
theorem Pu.weight {l : Ya} {n0 n1 : Nat} (h : Pu own w own' W x l s n0 n1 n2 a b c) (n : Int) : Pu own w own' (W.setCell ⟨x,5,none⟩ (.int .i64 n)) x { l with wt := n } s n0 n1 n2 a b c := by
 have o1 := h.sh.ox
 have ho : Zb (fun b => b = x) W (W.setCell ⟨x,5,none⟩ (.int .i64 n)) := Yd3 (S:=fun b => b = x) (Yd1 _ W) (.inl rfl) _
 refine h.turn (Yd2 _ _) (h.sh.cells (l':={ l with wt := n }) (s':=s) (Zj h.sh.block 5 _) ho rfl rfl rfl rfl rfl rfl rfl rfl rfl rfl (Yd0 _)) (ho.mono (fun b _ e => by rw [e]; exact .inl ⟨by omega,by omega⟩))
theorem Pu.given {l : Ya} {n0 n1 : Nat} (h : Pu own w own' W x l s n0 n1 n2 a b c) : Pu own w own' (W.setCell ⟨x,2,none⟩ (.int .i64 ((s.given : Int) + 1))) x l { s with given := s.given + 1 } n0 n1 n2 a b c := by
 have o1 := h.sh.ox
 have ho : Zb (fun b => b = x) W (W.setCell ⟨x,2,none⟩ (.int .i64 ((s.given : Int) + 1))) := Yd3 (S:=fun b => b = x) (Yd1 _ W) (.inl rfl) _
 refine h.turn (Yd2 _ _) (h.sh.cells (l':=l) (s':={ s with given := s.given + 1 }) (Zj h.sh.block 2 _) ho rfl rfl rfl rfl rfl rfl rfl rfl rfl rfl (Nat.le_succ _)) (ho.mono (fun b _ e => by rw [e]; exact .inl ⟨by omega,by omega⟩))
theorem Pu.key {l : Ya} {n0 n1 : Nat} (h : Pu own w own' W x l s n0 n1 n2 a b c) (hk : Yo s.keys) {node key : Int} (hno : Zk s.keys node = none) (hroom : l.gn + s.keys.length + 1 ≤ s.given) (hm : Zs W' l.km (upd (kf s.keys) node (some (.int .i64 key))) (if (kf s.keys node).isSome then s.keys.length else s.keys.length + 1)) (ht : W.mapTurned W' l.km) : Pu own w own' W' x l { s with keys := Yn s.keys node key } n0 n1 n2 a b c := by
 have hl := Xk hk node key
 rw [hno] at hl
 have hkf : (kf s.keys node).isSome = false := by rw [Kw,hno]; rfl
 rw [hkf] at hm
 have h1 : Zs W' l.km (kf (Yn s.keys node key)) (Yn s.keys node key).length := by
  rw [hl]
  exact hm.eq (g:=kf (Yn s.keys node key)) (fun i _ => Zgw _ _ _ _)
 have hne : l.gm ≠ l.km := fun ee => by have a := h.sh.okm; have b := h.sh.ogm; rw [ee] at b; omega
 have hl2 : (Yn s.keys node key).length = s.keys.length + 1 := hl
 obtain ⟨q1,q2⟩ := h.sh.maps (l':=l) (s':={ s with keys := Yn s.keys node key }) (.inl rfl) ht rfl rfl h1 (h.sh.gone.of_block (Yq ht hne)) h.sh.gok (by show l.gn + (Yn s.keys node key).length ≤ s.given; omega) rfl rfl rfl rfl rfl rfl
 exact h.turn (Yd2 _ _) q1 q2
theorem Pu.put {l : Ya} {n0 n1 : Nat} (h : Pu own w own' W x l s n0 n1 n2 a b c) : Calls Ydz 209 #[Pt (l.tb (s.shard b.k)),Yg b] W fun en w' => (∃ p q,en = .returned (.tuple #[Yg p,.bool q])) ∧ ∃ own2,Pu own w own2 w' x l { s with ent := Yn s.ent b.k b } n0 n1 n2 a b c := by
 have hlt := Zi0 h.sh b.k
 obtain ⟨t,ht⟩ := h.sh.tab _ hlt
 refine (Yc8 ht (by omega) (by have := h.sh.n; omega) b).mono ?_
 rintro en w' ⟨h1,own2,t',h2,h3,h4⟩
 obtain ⟨q1,q2⟩ := h.sh.table h2 h3 h4 hlt (Yn s.ent b.k b) (fun k => Yv _ _ _ _)
 exact ⟨⟨_,_,h1⟩,own2,h.turn h2 q1 q2⟩
theorem Pu.fin {l : Ya} {n0 n1 : Nat} (h : Pu own w own' W x l s n0 n1 n2 a b c) (hW : Zb (fun k => k = n0) W Wf) : Ext w own own' ∧ Y4 own' Wf x l s ∧ Zb (ShL own) w Wf :=
 ⟨h.ext,h.sh.kept (Yd2 _ _) hW (fun b _ hl e' => by rw [e'] at hl; exact Zac h.o0 hl),h.only.then hW (fun i hi e' => by have := h.lt; have e2 : i = n0 := e'; omega)⟩
theorem Zlr {l : Ya} (h : Y4 own w x l s) (key value v : Int) : (Calls Ydz 207 #[Pt x,.int .i64 key] (w.alloc (Z0 Zy)) fun e w' => e = .returned (Pt (l.tb (s.shard key))) ∧ Sm (w.alloc (Z0 Zy)) w') ∧
  ∀ w1,Sm (w.alloc (Z0 Zy)) w1 → Calls Ydz 208 #[Pt (l.tb (s.shard key)),.int .i64 key] (w1.alloc (Z0 ⟨key,value,v,0⟩)) fun en w2 => en = .returned (.tuple #[Yg ((Zk s.ent key).getD Zy),.bool (Zk s.ent key).isSome]) ∧ ∃ own',Pu own w own' (w2.alloc (Z0 ((Zk s.ent key).getD Zy))) x l s w.heap.size w1.heap.size w2.heap.size Zy ⟨key,value,v,0⟩ ((Zk s.ent key).getD Zy) := by
 have h0 := Zhd h (Z0 Zy)
 refine ⟨Zy2 h0 key,fun w1 hs => ?_⟩
 have h1 := h0.sm hs
 have hlt := Zi0 h key
 have hE1 : Ext w1 (ow1 own w) (lab (ow1 own w) w1.heap.size 0) := (Yd2 w1 _).lab (Yd0 _) _
 have h2 : Y4 (lab (ow1 own w) w1.heap.size 0) (w1.alloc (Z0 ⟨key,value,v,0⟩)) x l s := h1.kept hE1 ((Yd1 No w1).alloc _) (fun _ _ _ h => h)
 obtain ⟨t,ht⟩ := h2.tab _ hlt
 refine (Zz1 ht.ok key).mono ?_
 rintro en w2 ⟨rfl,ho⟩
 rw [Zcq]
 have hb0 : w1.heap[w.heap.size]? = some (Z0 Zy) := hs.block (Zh w _)
 have l0 := Ze hb0
 have l1 : w1.heap.size < w2.heap.size := by have := ho.size; simp at this; omega
 have hE2 : Ext w2 (lab (ow1 own w) w1.heap.size 0) (lab (lab (ow1 own w) w1.heap.size 0) w2.heap.size 0) := (Yd2 w2 _).lab (Yd0 _) _
 refine ⟨rfl,lab (lab (ow1 own w) w1.heap.size 0) w2.heap.size 0,?_,(h2.no ho).kept hE2 ((Yd1 No w2).alloc _) (fun _ _ _ h => h),Zm (ho.kept (Zm hb0) (fun h => h)),?_,Zm (ho.kept (Zh w1 _) (fun h => h)),?_,Zh w2 _,Zn _ _ _,⟨Yd0 _,l0,l1⟩,?_⟩
 ·intro i hi
  rw [Zq (by omega),Zq (by omega)]
  exact Vh hi
 ·rw [Zq (by omega),Zq (by omega)]; exact Zn _ _ _
 ·rw [Zq (by omega)]; exact Zn _ _ _
 ·exact (((((Yd1 (ShL own) w).alloc _).trans hs.only).alloc _).trans ho.no).alloc _
def Zde (own : Nat → Nat) (w : World) (x : Nat) (l : Ya) (s : Sh) (o : Op) (en : Ending) (w' : World) : Prop :=
 en = .returned (.tuple #[Yg ((Zk s.ent o.k).getD ⟨o.k,o.v,o.w,(s.given : Int) + 1⟩),.bool (Zk s.ent o.k).isSome]) ∧ ∃ own' l',Ext w own own' ∧ Y4 own' w' x l' (s.put o) ∧ l'.tb = l.tb ∧ Zb (ShL own) w w'
theorem Zr4 {l : Ya} (h : Y4 own w x l s) (o : Op) (hw0 : 0 ≤ o.w) (hw1 : o.w ≤ 2147483648) {e0 : Ent} (he : Zk s.ent o.k = some e0) : Calls Ydz 181 #[Pt x,.int .i64 o.k,.int .i64 o.v,.int .i64 o.w] w (Zde own w x l s o) := by
 obtain ⟨O,G⟩ := Zlr h o.k o.v o.w
 rw [he] at G
 simp only [Option.getD_some,Option.isSome_some] at G
 have O1 := Ydy O
 have G1 := Ydy G
 have hm : (if 0 < o.w then o.w else 0) = o.w := by split <;> omega
 have h1 : ¬ (2147483648 < o.w) := by omega
 have HFIN : Hid (∀ own3 l' Wf,Ext w own own3 → Y4 own3 Wf x l' { s with ent := Yn s.ent o.k ⟨o.k,o.v,o.w,e0.n⟩ } → l'.tb = l.tb → Zb (ShL own) w Wf → Zde own w x l s o (.returned (.tuple #[Yg e0,.bool true])) Wf) := Ydy (fun own3 l' Wf q1 q2 q3 q4 => ⟨by rw [he]; rfl,own3,l',q1,by unfold Sh.put; rw [he]; exact q2,q3,q4⟩)
 clear O G h he hw1
 generalize hk : o.k = key at *
 generalize o.v = value at *
 generalize o.w = v at *
 obtain ⟨tk,htk⟩ : ∃ tk,tk = l.tb (s.shard key) := ⟨_,rfl⟩
 rw [← htk] at O1 G1
 have HTK := Ydy htk
 clear htk hk
 go_enter Tryz.func181,Tryz.ntmps181
 go_wp2_with fail
 refine (O1.out).mono ?_
 rintro en w1 ⟨rfl,hs⟩
 have G2 := Ydy (G1.out w1 hs)
 clear hs G1 O1
 unfold Yg at G2
 go_wp2_with fail
 refine (G2.out).mono ?_
 rintro en w2 ⟨rfl,own2,P⟩
 have l1 : w1.heap.size < w2.heap.size := P.lt.2.2
 have l0 : w.heap.size < w2.heap.size := Yeg P.lt.2.1 l1
 have hWe : (w2.alloc (Z0 e0)).setCell ⟨w1.heap.size,3,none⟩ (.int .i64 e0.n) = (w2.setCell ⟨w1.heap.size,3,none⟩ (.int .i64 e0.n)).alloc (Z0 e0) := by simp [go_sem,l1]
 have P1 := P.node e0.n
 rw [hWe] at P1
 have HPut := Ydy P1.put
 have hb1 : w2.heap[w1.heap.size]? = some (Z0 ⟨key,value,v,0⟩) := (RowKit.Below.heap_alloc w2 _ _ l1).symm.trans P.b1
 obtain ⟨d0,d1,d2,d3,-,-,-,df⟩ := Yh hb1
 have HT := Ydy HTK.out
 clear hWe P1 P G2
 have hE : Z0 e0 = .cells #[.int .i64 e0.k,.int .i64 e0.v,.int .i64 e0.w,.int .i64 e0.n] 115 := rfl
 rw [hE] at HPut
 simp only at HPut d0 d1 d2 d3
 clear hb1 hE
 rw [← HTK.out] at HPut
 unfold Yg at HPut
 go_wp2_with fail
 refine (HPut.out).mono ?_
 rintro en w3 ⟨⟨p,q,rfl⟩,own3,P3⟩
 have HP3 := Ydy P3
 clear P3 HPut d0 d1 d2 d3 df l0 l1
 go_wp2
 refine Z4 12 (by kernel_rfl) (by kernel_rfl) ?_
 intro W4 hc4 hf4 hs4 HW4
 have P4 := HP3.out.sm (W':=W4) (by rw [← HW4.out]; exact ⟨rfl,rfl,rfl,rfl⟩)
 obtain ⟨-,-,⟨x5,xf⟩,⟨d0,d1,d2,d3,df⟩,⟨c0,c1,c2,c3⟩⟩ := P4.facts
 obtain ⟨z1,hz1⟩ := Ztp v e0.w
 obtain ⟨z2,hz2⟩ := Zzu l.wt z1
 have HZ1 := Ydy hz1
 have HZ2 := Ydy hz2
 have HP5 := Ydy (P4.weight z2)
 have NE := Ydy P4.ne
 have l0 := Ze P4.b0
 have l1 := Ze P4.b1
 have l2 := Ze P4.b2
 clear P4 hc4 hf4 hs4 HW4 HP3 hz1 hz2
 simp only at d0 d1 d2 d3
 simp only [Yd5,Yd7,Yd4,Yd6]
 iterate 8 still_step
 refine Xg rfl _ _ rfl rfl rfl rfl (HZ1.out _) ?_
 refine Xg rfl _ _ rfl rfl rfl rfl (HZ2.out _) ?_
 simp only [Act.put]
 iterate 2 still_step
 refine wpStill_nil ?_
 obtain ⟨g0,g1,g2,g3,gf0,gf1,gf2,gf3⟩ := Yh HP5.out.b0
 obtain ⟨e0',e1,e2,e3,_⟩ := Yh HP5.out.b1
 obtain ⟨i0,i1,i2,i3,_⟩ := Yh HP5.out.b2
 obtain ⟨y0,y1,y2,y3,y4,y5,y6,y7,y8,y9,y10,y11⟩ := NE.out
 go_wp2
 refine bodyPost_ret (v:=.tuple #[Yg e0,.bool true]) (by simp [results,Tryz.results181,go_sem,Yg,g0,g1,g2,g3]) rfl ?_
 have HF : ∀ Wf,Zb (fun k => k = w.heap.size) (W4.setCell ⟨x,5,none⟩ (.int .i64 z2)) Wf → Zde own w x l s o (.returned (.tuple #[Yg e0,.bool true])) Wf := fun Wf hW => by
  obtain ⟨q1,q2,q3⟩ := HP5.out.fin hW
  exact HFIN.out own3 _ Wf q1 q2 rfl q3
 exact HF _ ((((Yd3 (S:=fun k => k = w.heap.size) (Yd1 _ _) (.inl rfl) _).setCell (.inl rfl) _).setCell (.inl rfl) _).setCell (.inl rfl) _)
theorem Zr3 {l : Ya} (h : Y4 own w x l s) (ok : Zge s) (o : Op) (hw0 : 0 ≤ o.w) (hw1 : o.w ≤ 2147483648) (he : Zk s.ent o.k = none) : Calls Ydz 181 #[Pt x,.int .i64 o.k,.int .i64 o.v,.int .i64 o.w] w (Zde own w x l s o) := by
 obtain ⟨O,G⟩ := Zlr h o.k o.v o.w
 rw [he] at G
 simp only [Option.getD_none,Option.isSome_none] at G
 have O1 := Ydy O
 have G1 := Ydy G
 have hm : (if 0 < o.w then o.w else 0) = o.w := by split <;> omega
 have h1 : ¬ (2147483648 < o.w) := by omega
 have hgv := ok.gv
 have IW := IntWalk.i64_in ((s.given : Int) + 1) (by omega)
 have hig : I64 ((s.given : Int) + 1) := ⟨by omega,by omega⟩
 have hno : Zk s.keys ((s.given : Int) + 1) = none := by
  cases hk : Zk s.keys ((s.given : Int) + 1) with
  | none => rfl
  | some k => have := ok.kr _ _ hk; omega
 have hgsz := h.gsz
 have HNK := Ydy (And.intro hno (And.intro ok.ko (And.intro hgsz hgv)))
 have hxl := Ze h.block
 have HFIN : Hid (∀ own3 l' Wf,Ext w own own3 → Y4 own3 Wf x l' { s with ent := Yn s.ent o.k ⟨o.k,o.v,o.w,(s.given : Int) + 1⟩,given := s.given + 1,keys := Yn s.keys ((s.given : Int) + 1) o.k } → l'.tb = l.tb → Zb (ShL own) w Wf → Zde own w x l s o (.returned (.tuple #[Yg ⟨o.k,o.v,o.w,(s.given : Int) + 1⟩,.bool false])) Wf) := Ydy (fun own3 l' Wf q1 q2 q3 q4 => ⟨by rw [he]; rfl,own3,l',q1,by unfold Sh.put; rw [he]; exact q2,q3,q4⟩)
 clear O G h he hw1 ok hno hgsz
 generalize hk : o.k = key at *
 generalize o.v = value at *
 generalize o.w = v at *
 obtain ⟨tk,htk⟩ : ∃ tk,tk = l.tb (s.shard key) := ⟨_,rfl⟩
 rw [← htk] at O1 G1
 have HTK := Ydy htk
 clear htk hk
 go_enter Tryz.func181,Tryz.ntmps181
 go_wp2_with fail
 refine (O1.out).mono ?_
 rintro en w1 ⟨rfl,hs⟩
 have G2 := Ydy (G1.out w1 hs)
 clear hs G1 O1
 unfold Yg at G2
 go_wp2_with fail
 refine (G2.out).mono ?_
 rintro en w2 ⟨rfl,own2,P⟩
 have l1 : w1.heap.size < w2.heap.size := P.lt.2.2
 have l0 : w.heap.size < w2.heap.size := Yeg P.lt.2.1 l1
 have lx : x < w2.heap.size := Yeg hxl l0
 obtain ⟨y0,y1,y2,y3,y4,y5,y6,y7,y8,y9,y10,y11⟩ := P.ne
 have hWe : ((w2.alloc (Z0 Zy)).setCell ⟨x,2,none⟩ (.int .i64 ((s.given : Int) + 1))).setCell ⟨w1.heap.size,3,none⟩ (.int .i64 ((s.given : Int) + 1)) = ((w2.setCell ⟨x,2,none⟩ (.int .i64 ((s.given : Int) + 1))).setCell ⟨w1.heap.size,3,none⟩ (.int .i64 ((s.given : Int) + 1))).alloc (Z0 Zy) := by simp [go_sem,l1,lx]
 have P1 := P.given.node ((s.given : Int) + 1)
 rw [hWe] at P1
 have HP1 := Ydy P1
 have hb1 : w2.heap[w1.heap.size]? = some (Z0 ⟨key,value,v,0⟩) := (RowKit.Below.heap_alloc w2 _ _ l1).symm.trans P.b1
 have hbx : w2.heap[x]? = some (.cells (shC l s) 121 (0,0)) := (RowKit.Below.heap_alloc w2 _ _ lx).symm.trans P.sh.block
 obtain ⟨d0,d1,d2,d3,-,-,-,df⟩ := Yh hb1
 have g2 : w2.cell? ⟨x,2,none⟩ = some (.int .i64 (s.given : Int)) := Za hbx rfl
 have gf2 : w2.frozen? ⟨x,2,none⟩ = false := Zc hbx _
 simp only at d0 d1 d2 d3
 clear hWe P1 P G2 hb1 hbx
 go_wp2
 refine Z4 7 (by kernel_rfl) (by kernel_rfl) ?_
 intro W3 hc3 hf3 hs3 HW3
 have P3 := HP1.out.sm (W':=W3) (by rw [← HW3.out]; exact ⟨rfl,rfl,rfl,rfl⟩)
 clear d0 d1 d2 d3 df g2 gf2
 obtain ⟨-,x3,-,⟨d0,d1,d2,d3,df⟩,-⟩ := P3.facts
 have HP3 := Ydy P3
 have HK := Ydy P3.sh.keys
 have HKL : Hid (s.keys.length < 1000000) := Ydy (by have := HNK.out.2.2.1; have := HNK.out.2.2.2; omega)
 clear P3 hc3 hf3 hs3 HW3 HP1
 simp only at d0 d1 d2 d3
 simp only [Yd5,Yd7,Yd4,Yd6]
 iterate 7 still_step
 refine wpStill_nil ?_
 go_wp2_with (refine Y0 (by rfl) (t:=60) (by rfl) (e:=3) Yec (b:=l.km) (by rfl) HK.out HKL.out (k:=(s.given : Int) + 1) (val:=.int .i64 key) (by rfl) (by rfl) hig ?_; intro w5 hm htt; have P5 := HP3.out.key HNK.out.2.1 HNK.out.1 (by have hq := HNK.out.2.2.1; show l.gn + s.keys.length + 1 ≤ s.given + 1; omega) hm htt; obtain ⟨-,-,-,⟨p0,p1,p2,p3,-⟩,-⟩ := P5.facts; have HPut := Ydy P5.put; have HP5 := Ydy P5; clear P5 hm htt x3 d0 d1 d2 d3 df HK HKL HP3 HNK; simp only at p0 p1 p2 p3; rw [show l.tb (Sh.shard { s with given := s.given + 1,keys := Yn s.keys ((s.given : Int) + 1) key } key) = tk from HTK.out.symm] at HPut; unfold Yg at HPut; simp only at HPut)
 go_wp2_with fail
 refine (HPut.out).mono ?_
 rintro en w3 ⟨⟨p,q,rfl⟩,own3,P3⟩
 have HP3 := Ydy P3
 clear P3 HPut p0 p1 p2 p3 l0 l1 lx y0 y1 y2 y3 y4 y5 y6 y7 y8 y9 y10 y11 HP5 IW hgv hig hxl
 go_wp2
 refine Z4 12 (by kernel_rfl) (by kernel_rfl) ?_
 intro W4 hc4 hf4 hs4 HW4
 have P4 := HP3.out.sm (W':=W4) (by rw [← HW4.out]; exact ⟨rfl,rfl,rfl,rfl⟩)
 obtain ⟨-,-,⟨x5,xf⟩,⟨d0,d1,d2,d3,df⟩,⟨c0,c1,c2,c3⟩⟩ := P4.facts
 obtain ⟨z1,hz1⟩ := Ztp v Zy.w
 obtain ⟨z2,hz2⟩ := Zzu l.wt z1
 have HZ1 := Ydy hz1
 have HZ2 := Ydy hz2
 have HP5 := Ydy (P4.weight z2)
 have NE := Ydy P4.ne
 have l0 := Ze P4.b0
 have l1 := Ze P4.b1
 have l2 := Ze P4.b2
 clear P4 hc4 hf4 hs4 HW4 HP3 hz1 hz2
 simp only at d0 d1 d2 d3
 simp only [Yd5,Yd7,Yd4,Yd6]
 iterate 8 still_step
 refine Xg rfl _ _ rfl rfl rfl rfl (HZ1.out _) ?_
 refine Xg rfl _ _ rfl rfl rfl rfl (HZ2.out _) ?_
 simp only [Act.put]
 iterate 2 still_step
 refine wpStill_nil ?_
 obtain ⟨g0,g1,g2,g3,gf0,gf1,gf2,gf3⟩ := Yh HP5.out.b0
 obtain ⟨e0',e1,e2,e3,_⟩ := Yh HP5.out.b1
 obtain ⟨i0,i1,i2,i3,_⟩ := Yh HP5.out.b2
 obtain ⟨y0,y1,y2,y3,y4,y5,y6,y7,y8,y9,y10,y11⟩ := NE.out
 go_wp2
 refine bodyPost_ret (v:=.tuple #[Yg ⟨key,value,v,(s.given : Int) + 1⟩,.bool false]) (by simp [results,Tryz.results181,go_sem,Yg,g0,g1,g2,g3]) rfl ?_
 have HF : ∀ Wf,Zb (fun k => k = w.heap.size) (W4.setCell ⟨x,5,none⟩ (.int .i64 z2)) Wf → Zde own w x l s o (.returned (.tuple #[Yg ⟨key,value,v,(s.given : Int) + 1⟩,.bool false])) Wf := fun Wf hW => by
  obtain ⟨q1,q2,q3⟩ := HP5.out.fin hW
  exact HFIN.out own3 _ Wf q1 q2 rfl q3
 exact HF _ ((((Yd3 (S:=fun k => k = w.heap.size) (Yd1 _ _) (.inl rfl) _).setCell (.inl rfl) _).setCell (.inl rfl) _).setCell (.inl rfl) _)
theorem Yc3 {l : Ya} (h : Y4 own w x l s) (ok : Zge s) (o : Op) (hw0 : 0 ≤ o.w) (hw1 : o.w ≤ 2147483648) : Calls Ydz 181 #[Pt x,.int .i64 o.k,.int .i64 o.v,.int .i64 o.w] w (Zde own w x l s o) := by
 cases he : Zk s.ent o.k with
 | none => exact Zr3 h ok o hw0 hw1 he
 | some e0 => exact Zr4 h o hw0 hw1 he
theorem Zzi (n : Int) (d : Nat) (j : Nat) : ∃ i : Nat,j ≤ i ∧ i ≤ j + d ∧ upV n d ((2 ^ j : Nat) : Int) = ((2 ^ i : Nat) : Int) := by
 induction d generalizing j with
 | zero => exact ⟨j,Yd0 _,Yd0 _,rfl⟩
 | succ d ih =>
  show ∃ i : Nat,j ≤ i ∧ i ≤ j + (d + 1) ∧ (if ((2 ^ j : Nat) : Int) < n then upV n d (((2 ^ j : Nat) : Int) * 2) else ((2 ^ j : Nat) : Int)) = ((2 ^ i : Nat) : Int)
  split
  ·obtain ⟨i,h1,h2,h3⟩ := ih (j + 1)
   refine ⟨i,by omega,by omega,?_⟩
   rw [← h3]
   congr 1
  ·exact ⟨j,Yd0 _,by omega,rfl⟩
theorem Zdz (n : Int) (d : Nat) : ∃ i : Nat,i ≤ d ∧ Yt n 1 d = ((2 ^ i : Nat) : Int) := by
 obtain ⟨i,_,h2,h3⟩ := Zzi n d 0
 exact ⟨i,by omega,h3⟩
def Zgd (own : Nat → Nat) (w : World) (lb : Nat) (r : Y8) (e : Ending) (w' : World) : Prop := ∃ x cb own',e = .returned (Pt x) ∧ Ext w own own' ∧ Xj own' w' lb x cb r ∧ Zb No w w'
theorem Zv3 (own : Nat → Nat) (lb : Nat) (size : Int) (w : World) : Calls Ydz 51 #[.int .i64 size] w (Zgd own w lb ⟨(Yt size 1 12).toNat,[]⟩) := by
 obtain ⟨i,hi,he⟩ := Zdz size 12
 have C := Zap size 1 4096 12 (by omega) (by decide) (by omega) (by decide +kernel) (by decide +kernel) w
 rw [show upV size 12 1 = Yt size 1 12 from rfl,he] at C
 rw [he,Int.toNat_natCast]
 have C := Ydy C
 have hp : 1 ≤ 2 ^ i ∧ 2 ^ i ≤ 4096 := ⟨Yei,Nat.le_trans (Yee (by omega) hi) (by decide)⟩
 obtain ⟨hp1,hp2⟩ := hp
 have hmk := Zny (2 ^ i) (by omega)
 have HQ : Hid (∀ e w',(∃ x cb own',e = .returned (Pt x) ∧ Ext w own own' ∧ Xj own' w' lb x cb ⟨2 ^ i,[]⟩ ∧ Zb No w w') → Zgd own w lb ⟨2 ^ i,[]⟩ e w') := Ydy (fun _ _ h => h)
 have HE := Ydy he
 have HN : Hid (∃ i : Nat,i ≤ 12 ∧ 2 ^ i = 2 ^ i) := Ydy ⟨i,hi,rfl⟩
 have HI : Hid (∃ i0 : Nat,i0 ≤ 12 ∧ 2 ^ i = 2 ^ i0) := Ydy ⟨i,hi,rfl⟩
 clear he HE HN
 generalize 2 ^ i = N at *
 go_enter Tryz.func51,Tryz.ntmps51
 go_wp2_with fail
 refine (C.out).mono ?_
 rintro e w' ⟨rfl,rfl⟩
 go_wp2
 go_ret
 obtain ⟨i0,hi0,hN⟩ := HI.out
 refine HQ.out _ _ ⟨w.heap.size + 1,w.heap.size,lab (lab own w.heap.size (lb + 1)) (w.heap.size + 1) lb,rfl,((Yd2 w own).lab (Yd0 _) _).lab (by omega) _,⟨Zn _ _ _,?_,0,i0,0,Yed N 0,hi0,hN,hp1,List.length_replicate,Nat.zero_le _,?_,?_,?_⟩,?_⟩
 ·rw [Zq (by omega),Zn]
 ·exact Kj w _ _
 ·rw [List.map_replicate]; exact Zbv w _ _
 ·intro j v hv
  cases hv
 ·(repeat (first | with_reducible exact Yd1 _ _ | with_reducible refine Zb.drew ?_ | with_reducible refine Zb.drewN ?_ _ | with_reducible refine Zb.alloc ?_ _ | ((with_reducible refine Yd3 ?_ ?_ _); rotate_left; first | exact .inl rfl | exact .inr (Yd0 _) | exact .inl (.inl rfl) | exact .inl (.inr rfl) | exact .inl (.inr (.inl rfl)) | exact .inl (.inr (.inr rfl)) | (focus (right; first | (simp; done) | (simp; omega))))))
def tbC (seed : Int) (rb : Nat) : Obj := .cells #[.int .i64 seed,Sl rb 8,.slice none 0 0,.int .i64 0,.int .i64 0] 186
theorem Zu3 (W : World) : (Instr.makeSlice 184 (.int .i64 8) (.int .i64 8)).run Ydz W = .ok (Sl W.heap.size 8) (W.alloc (.cells #[.pointer none,.pointer none,.pointer none,.pointer none,.pointer none,.pointer none,.pointer none,.pointer none] 224)) := Zph 8 (by omega) W
theorem Yc7 (seed : Int) (w : World) : Calls Ydz 50 #[.int .i64 seed] w fun e w' => e = .returned (Pt (w.heap.size + 1)) ∧ w' = (w.alloc (.cells #[.pointer none,.pointer none,.pointer none,.pointer none,.pointer none,.pointer none,.pointer none,.pointer none] 224)).alloc (tbC seed w.heap.size) := by
 have hm := Zu3
 go_enter Tryz.func50,Tryz.ntmps50
 go_wp2
 go_ret
 exact ⟨rfl,rfl⟩
theorem Zwo (own : Nat → Nat) (lb : Nat) (seed : Int) (w : World) (hw : w' = (w.alloc (.cells #[.pointer none,.pointer none,.pointer none,.pointer none,.pointer none,.pointer none,.pointer none,.pointer none] 224)).alloc (tbC seed w.heap.size)) : Qx (lab (lab own w.heap.size (lb + 1)) (w.heap.size + 1) lb) w' lb (w.heap.size + 1) seed (fun _ => none) ⟨w.heap.size,Yed 8 [],.slice none 0 0,[],0,0⟩ := by
 subst hw
 refine ⟨⟨Zn _ _ _,?_,Kj w _ _,Zbv w _ _,⟨0,by omega,rfl⟩,⟨by simp,Yd0 _⟩,.inl ⟨rfl,rfl⟩,fun i c hc => ?_,fun i c _ hc => by simp at hc,fun k e h => (nomatch h)⟩,fun _ => rfl⟩
 ·show lab _ _ _ w.heap.size = lb + 1
  rw [Zq (by omega),Zn]
 ·have hc' : (Yed 8 ([] : Chn))[i]? = some c := hc
  rw [List.getElem?_replicate] at hc'
  split at hc'
  ·cases hc'
   exact ⟨trivial,fun _ _ h => (nomatch h),List.nodup_nil⟩
  ·cases hc'
def ShM (own : Nat → Nat) (w : World) (lb : Nat) (seed : Int) (own1 : Nat → Nat) (w1 : World) (tb : Nat) : Prop := Ext w own own1 ∧ (∃ t,Qx own1 w1 lb tb seed (fun _ => none) t) ∧ Zb No w w1
def shN (seed : Int) (v : Value) (km gm : Nat) : Obj := .cells #[.int .i64 seed,v,.int .i64 0,.map (some km),.map (some gm),.int .i64 0] 121
structure ShR (own : Nat → Nat) (w : World) (x : Nat) (seed : Int) (km gm k : Nat) (wr : World) (own' : Nat → Nat) (v : Value) (tb : Nat → Nat) : Prop where
 a1 : Ext w own own'
 a2 : own' x = 40 ∧ own' km = 42 ∧ own' gm = 43
 a3 : wr.heap[x]? = some (shN seed v km gm)
 a4 : Row own' 41 wr 123 1 v k ((Yd8 k).map fun i => Pt (tb i))
 a5 : ∀ i,i < k → ∃ t,Qx own' wr (1000 + 10 * i) (tb i) seed (fun _ => none) t
 a6 : Zb No w wr
 a7 : w.heap.size ≤ x
 a8 : ∀ b,v.ownBlock = some b → w.heap.size ≤ b
 a9 : Zs wr km (fun _ => none) 0 ∧ Zs wr gm (fun _ => none) 0
def Zs4 (own : Nat → Nat) (w : World) (s : Sh) (e : Ending) (w' : World) : Prop := ∃ x l own',e = .returned (Pt x) ∧ Ext w own own' ∧ Y4 own' w' x l s ∧ Zb No w w'
theorem ShR.end' {seed : Int} {km gm k : Nat} {tb : Nat → Nat} (h : ShR own w x seed km gm k wr own' v tb) (h1 : 1 ≤ k) (h2 : k ≤ 64) : Zs4 own w ⟨seed,k,[],0,[]⟩ (.returned (Pt x)) wr := by
 refine ⟨x,⟨v,tb,km,gm,fun _ => none,0,0⟩,own',rfl,h.a1,⟨h.a2.1,h.a3,h.a4,⟨h1,h2⟩,fun i hi => ?_,h.a2.2.1,h.a2.2.2,h.a9.1,h.a9.2,fun _ _ => .inl rfl,Yd0 _⟩,h.a6⟩
 obtain ⟨t,ht⟩ := h.a5 i hi
 refine ⟨t,?_⟩
 have : Ve ⟨seed,k,[],0,[]⟩ i = fun _ => none := by funext q; unfold Ve; split <;> rfl
 rw [this]
 exact ht
theorem ShR.next {own1 : Nat → Nat} {w1 w4 : World} {tbn k g cap km gm : Nat} {seed : Int} {tb : Nat → Nat} (h : ShR own w x seed km gm k wr own' v tb) (hk : k < 64)
  (b : ShM own' wr (1000 + 10 * k) seed own1 w1 tbn) (hs : Sm (w1.alloc (.cells #[Pt tbn] 123)) W) (hR : Row (ext own1 (w1.heap.size + 1) 41) 41 w4 123 1 (.slice (some ⟨g,0,none⟩) (k + 1) cap) (k + 1) (((Yd8 k).map fun i => Pt (tb i)) ++ (#[Pt tbn] : Array Value).toList)) (hg : W.grownBy w4 v.ownBlock) (hat : v.ownBlock = some g ∨ g = w1.heap.size + 1) (q0 : w4.heap[x]? = some (shN seed v km gm)) :
  ShR own w x seed km gm (k + 1) (w4.setCell ⟨x,1,none⟩ (.slice (some ⟨g,0,none⟩) (k + 1) cap)) (ext own1 (w1.heap.size + 1) 41) (.slice (some ⟨g,0,none⟩) (k + 1) cap) (fun i => if i = k then tbn else tb i) := by
 obtain ⟨b1,⟨tn,b2⟩,b3⟩ := b
 obtain ⟨a1,⟨a2,a2k,a2g⟩,a3,hv,a5,a6,a7,a8,⟨a9,a10⟩⟩ := h
 have hx : x < wr.heap.size := Ze a3
 have hz := b3.size
 have hz0 := a6.size
 have hx1 : own1 x = 40 := (b1 x hx).trans a2
 have hkl := a9.lt
 have hgl := a10.lt
 have hk1 : own1 km = 42 := (b1 km hkl).trans a2k
 have hg1 : own1 gm = 43 := (b1 gm hgl).trans a2g
 have hv1 : ∀ j,v.ownBlock = some j → own1 j = 41 := fun j hj => (b1 j (hv.lt hj)).trans (hv.2 j hj)
 have hE1 : Ext w1 own1 (ext own1 (w1.heap.size + 1) 41) := fun j hj => Zz (by omega)
 have hOW : Zb (fun j => j = x ∨ v.ownBlock = some j) w1 w4 := (((Yd1 _ w1).alloc _).trans hs.only).trans ⟨hg.os,hg.tape,hg.output,hg.size,fun j hj hn => hg.block j hj (fun e => hn (.inr e.symm))⟩
 have hO5 : Zb (fun j => j = x ∨ v.ownBlock = some j) w1 (w4.setCell ⟨x,1,none⟩ (.slice (some ⟨g,0,none⟩) (k + 1) cap)) := hOW.setCell (p:=⟨x,1,none⟩) (.inl (.inl rfl)) _
 have hk5 : ∀ (i : Nat) (j : Nat),(own1 j = 1000 + 10 * i ∨ own1 j = 1000 + 10 * i + 1 ∨ ∃ q e,(none : Option Ent) = some e ∧ own1 j = lk q) → ¬ (j = x ∨ v.ownBlock = some j) := fun i j e h => by
  have he : own1 j = 1000 + 10 * i ∨ own1 j = 1000 + 10 * i + 1 := by
   rcases e with e | e | ⟨_,_,e,_⟩
   ·exact .inl e
   ·exact .inr e
   ·cases e
  rcases h with h | h
  ·rw [h] at he; omega
  ·have := hv1 j h; omega
 have hm5 : ∀ j,own1 j = 42 ∨ own1 j = 43 → ¬ (j = x ∨ v.ownBlock = some j) := fun j e h => by
  rcases h with h | h
  ·rw [h] at e; omega
  ·have := hv1 j h; omega
 refine ⟨a1.trans hz0 (b1.trans hz hE1),⟨by rw [Zz (by omega)]; exact hx1,by rw [Zz (by omega)]; exact hk1,by rw [Zz (by omega)]; exact hg1⟩,Zj q0 1 _,?_,?_,(a6.trans b3).then hO5 (fun i hi e => by
   rcases e with e | e
   ·omega
   ·have := a8 i e; omega),a7,?_,((a9.kept b3 (fun h => h)).kept hO5 (hm5 km (.inl hk1))),((a10.kept b3 (fun h => h)).kept hO5 (hm5 gm (.inr hg1)))⟩
 ·have e : (Yd8 (k + 1)).map (fun i => Pt (if i = k then tbn else tb i)) = ((Yd8 k).map fun i => Pt (tb i)) ++ (#[Pt tbn] : Array Value).toList := by
   rw [List.range_succ,List.map_append]
   congr 1
   ·apply List.map_congr_left
    intro i hi
    have := List.mem_range.1 hi
    rw [if_neg (by omega)]
   ·simp
  rw [e]
  exact hR.kept (S:=fun j => j = x) (fun _ _ => rfl) ((Yd1 (fun j => j = x) w4).setCell (p:=⟨x,1,none⟩) (.inl rfl) _) (fun j _ hj e => by
   rw [e,Zz (by omega)] at hj
   omega)
 ·intro i hi
  by_cases hik : i = k
  ·subst hik
   simp only [if_true]
   exact ⟨tn,b2.ok.kept hE1 hO5 (fun j _ e => hk5 i j e),b2.rest⟩
  ·simp only [if_neg hik]
   obtain ⟨ti,hti⟩ := a5 i (by omega)
   exact ⟨ti,(hti.ok.kept b1 b3 (fun _ _ _ h => h)).kept hE1 hO5 (fun j _ e => hk5 i j e),hti.rest⟩
 ·intro j hj
  simp only [Value.ownBlock,Option.some.injEq] at hj
  subst hj
  rcases hat with e | e
  ·exact a8 _ e
  ·omega
theorem Zof (own : Nat → Nat) (count seed : Int) (w : World) : Calls Ydz 20 #[.int .i64 count,.int .i64 seed] w (Zs4 own w ⟨seed,(Yt count 1 6).toNat,[],0,[]⟩) := by
 obtain ⟨i,hi,he⟩ := Zdz count 6
 have C := fun W => Zap count 1 64 6 (by omega) (by decide) (by omega) (by decide +kernel) (by decide +kernel) W
 rw [show upV count 6 1 = Yt count 1 6 from rfl,he] at C
 rw [he,Int.toNat_natCast]
 have C := Ydy C
 have hp : 1 ≤ 2 ^ i ∧ 2 ^ i ≤ 64 := ⟨Yei,Nat.le_trans (Yee (by omega) hi) (by decide)⟩
 have RN : Hid (∀ own1 lb W,Calls Ydz 50 #[.int .i64 seed] W fun e w1 => ∃ tb own2,e = .returned (Pt tb) ∧ ShM own1 W lb seed own2 w1 tb) := Ydy (fun own1 lb W => (Yc7 seed W).mono (fun e w1 ⟨h1,h2⟩ => ⟨_,_,h1,((Yd2 W own1).lab (Yd0 _) _).lab (by omega) _,⟨_,Zwo own1 lb seed W h2⟩,by rw [h2]; exact ((Yd1 No W).alloc _).alloc _⟩))
 clear he hi
 generalize 2 ^ i = N at *
 obtain ⟨hp1,hp2⟩ := hp
 have hmm := @run_makeMap Ydz
 go_enter Tryz.func20,Tryz.ntmps20
 go_wp2_with fail
 refine (C.out _).mono ?_
 rintro e w' ⟨rfl,rfl⟩
 go_wp2
 have H0 : Hid (∃ own' v tb,ShR own w (w.heap.size + 1 + 1) seed w.heap.size (w.heap.size + 1) 0 (((w.alloc (.map #[] 0)).alloc (.map #[] 0)).alloc (.cells #[.int .i64 seed,.slice none 0 0,.int .i64 0,.map (some w.heap.size),.map (some (w.heap.size + 1)),.int .i64 0] 121)) own' v tb) := Ydy (by
  have hs1 : (w.alloc (.map #[] 0)).heap.size = w.heap.size + 1 := by simp
  have hs2 : ((w.alloc (.map #[] 0)).alloc (.map #[] 0)).heap.size = w.heap.size + 1 + 1 := by simp
  refine ⟨lab (lab (lab own w.heap.size 42) (w.heap.size + 1) 43) (w.heap.size + 1 + 1) 40,.slice none 0 0,fun _ => 0,?_,⟨Zn _ _ _,?_,?_⟩,?_,Row.nil _ _ _ _ _,fun i h => absurd h (Nat.not_lt_zero _),?_,by omega,fun b hb => by simp [Value.ownBlock] at hb,?_,?_⟩
  ·exact (((Yd2 w own).lab (by omega) _).lab (by omega) _).lab (by omega) _
  ·rw [Zq (by omega),Zq (by omega),Zn]
  ·rw [Zq (by omega),Zn]
  ·have := Zh ((w.alloc (.map #[] 0)).alloc (.map #[] 0)) (.cells #[.int .i64 seed,.slice none 0 0,.int .i64 0,.map (some w.heap.size),.map (some (w.heap.size + 1)),.int .i64 0] 121)
   rw [hs2] at this
   exact this
  ·exact ((((Yd1 No w).alloc _).alloc _).alloc _)
  ·exact ((Zs.made w).alloc _).alloc _
  ·have := (Zs.made (w.alloc (.map #[] 0))).alloc (.cells #[.int .i64 seed,.slice none 0 0,.int .i64 0,.map (some w.heap.size),.map (some (w.heap.size + 1)),.int .i64 0] 121)
   rw [hs1] at this
   exact this)
 generalize hx : w.heap.size + 1 + 1 = x at *
 generalize hgm : w.heap.size + 1 = gm at *
 generalize hkm : w.heap.size = km at *
 clear hx hgm hkm hmm
 go_loopw [13] (fun i wr => ∃ k : Nat,k ≤ N ∧ i = .int .i64 (k : Int) ∧ ∃ own' v tb,ShR own w x seed km gm k wr own' v tb) (fun i _ => N - (intOf i).toNat)
 case atStart => exact ⟨0,by omega,rfl,H0.out⟩
 case round =>
  obtain ⟨k,hk,rfl,own',v,tb,hS⟩ := hrel
  have HS := Ydy hS
  by_cases hlt : k < N
  ·have hkb : decide ((k : Int) < (N : Int)) = true := by simp; omega
   have c1 : wr.cell? ⟨x,1,none⟩ = some v := Za hS.a3 rfl
   have RK : Hid (∀ W,Sm wr W → Calls Ydz 50 #[.int .i64 seed] W fun e w1 => ∃ tbn own1,e = .returned (Pt tbn) ∧ ShM own' wr (1000 + 10 * k) seed own1 w1 tbn) := Ydy (fun W hs => (RN.out own' (1000 + 10 * k) W).mono (fun e w1 ⟨tbn,own1,h1,h2,h3,h4⟩ => ⟨tbn,own1,h1,fun b hb => h2 b (by rw [hs.heap]; exact hb),h3,hs.only.trans h4⟩))
   have HC : Hid (∀ own1 w1 tbn,ShM own' wr (1000 + 10 * k) seed own1 w1 tbn → w1.heap[x]? = some (shN seed v km gm)) := Ydy (fun own1 w1 tbn h => h.2.2.kept HS.out.a3 (fun h => h))
   have HROW : Hid (∀ own1 w1 tbn W,ShM own' wr (1000 + 10 * k) seed own1 w1 tbn → Sm (w1.alloc (.cells #[Pt tbn] 123)) W → Row own1 41 W 123 1 v k ((Yd8 k).map fun i => Pt (tb i))) := Ydy (fun own1 w1 tbn W h hs => ((HS.out.a4.kept h.1 h.2.2 (fun _ _ _ h => h)).kept (own':=own1) (fun _ _ => rfl) ((Yd1 No w1).alloc (.cells #[Pt tbn] 123)) (fun _ _ _ h => h)).sm hs)
   have HN : Hid (∀ (w1 : World) (tbn : Nat) W,Sm (w1.alloc (.cells #[Pt tbn] 123)) W → W.heap[w1.heap.size]? = some (.cells #[Pt tbn] 123 (0,0)) ∧ W.heap.size = w1.heap.size + 1) := Ydy (fun w1 tbn W hs => ⟨hs.block (Zh _ _),by rw [hs.size]; simp⟩)
   have HX : Hid (∀ own1 w1 tbn W w4,ShM own' wr (1000 + 10 * k) seed own1 w1 tbn → Sm (w1.alloc (.cells #[Pt tbn] 123)) W → W.grownBy w4 v.ownBlock → w4.heap[x]? = some (shN seed v km gm)) := Ydy (fun own1 w1 tbn W w4 h hs hg => (hg.block x (by have := h.2.2.size; have := Ze HS.out.a3; rw [hs.size]; simp; omega) (fun e => by have h1 := HS.out.a4.2 x e.symm; have h2 := HS.out.a2.1; omega)).trans (hs.block (Zm (h.2.2.kept HS.out.a3 (fun h => h)))))
   have HNX : Hid (∀ own1 w1 W w4 tbn g cap,ShM own' wr (1000 + 10 * k) seed own1 w1 tbn → Sm (w1.alloc (.cells #[Pt tbn] 123)) W → Row (ext own1 (w1.heap.size + 1) 41) 41 w4 123 1 (.slice (some ⟨g,0,none⟩) (k + 1) cap) (k + 1) (((Yd8 k).map fun i => Pt (tb i)) ++ (#[Pt tbn] : Array Value).toList) → W.grownBy w4 v.ownBlock → (v.ownBlock = some g ∨ g = w1.heap.size + 1) → w4.heap[x]? = some (shN seed v km gm) → ∃ own' v tb,ShR own w x seed km gm (k + 1) (w4.setCell ⟨x,1,none⟩ (.slice (some ⟨g,0,none⟩) (k + 1) cap)) own' v tb) := Ydy (fun _ _ _ _ _ _ _ h1 h2 h3 h4 h5 h6 => ⟨_,_,_,HS.out.next (by omega) h1 h2 h3 h4 h5 h6⟩)
   clear hS
   go_wp2
   go_region_law ((first | (refine Jx (by rfl) _ _ _ (by rfl) Zxq (by rfl) (HROW.out _ _ _ _ B.out ⟨rfl,rfl,rfl,rfl⟩) (B:=w1.heap.size) (c:=1) (cs:=#[Pt tbn]) (tb:=123) (fr:=(0,0)) (by rfl) (HN.out _ _ _ ⟨rfl,rfl,rfl,rfl⟩).1 (by rfl) (by simp [Value.oneCell']) (by omega) (w1.heap.size + 1) (HN.out _ tbn _ ⟨rfl,rfl,rfl,rfl⟩).2 ?_; intro g cap w4 hR4 hgrow hat hsz; have q0 := Ydy (HX.out _ _ _ _ _ B.out ⟨rfl,rfl,rfl,rfl⟩ hgrow); have q1 := Za (j:=1) q0.out rfl; have q2 := Zc q0.out 1; have HR4 := Ydy hR4; have HG4 := Ydy hgrow; clear hR4 hgrow) | (go_simp; go_wp2_with (go_at_call 50; refine (RK.out _ (by first | exact Sm.refl _ | exact Sm.drewN _ _ | exact ⟨rfl,rfl,rfl,rfl⟩)).mono ?_; rintro e w1 ⟨tbn,own1,rfl,b⟩; have B := Ydy b; have d0 : w1.cell? ⟨x,1,none⟩ = some v := Za (HC.out _ _ _ b) rfl; have d1 : ∀ o,(w1.alloc o).cell? ⟨x,1,none⟩ = some v := fun o => Za (Zm (HC.out _ _ _ b)) rfl; clear b))))
   all_goals
    go_wp2
    go_roundw
    case rel => exact ⟨k + 1,by omega,by go_num,HNX.out _ _ _ _ _ _ _ B.out ⟨rfl,rfl,rfl,rfl⟩ HR4.out HG4.out hat q0.out⟩
    case measure => simp [intOf]; omega
  ·have hke : k = N := by omega
   subst hke
   clear hS
   go_wp2
   go_ret
   exact HS.out.end' hp1 hp2
end
end Go.Proofs.YtdkhbegheognnaaGreatDoor.W

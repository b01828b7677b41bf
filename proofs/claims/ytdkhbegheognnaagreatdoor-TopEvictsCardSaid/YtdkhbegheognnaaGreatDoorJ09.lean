/- Part of the proof of TopEvicts, joined by a program of the session: Pop App Pll Wri Wrc Wrt Wru. -/
import Derived.Test.YtdkhbegheognnaaGreatDoorJ08
import Derived.Test.YtdkhbegheognnaaGreatDoorJ02
import Derived.Deep.Upon
import Derived.Deep.AppendLies
import Derived.WalkSpells
import Derived.Deep.DeepCutAuto
import Derived.Deep.CutBlock
namespace Go.Proofs.YtdkhbegheognnaaGreatDoor.W
open Go.RowKit Go.Maps
open _root_.Go.Proofs.Tryz renaming prog → Ydz, underlying130 → Yd9, ntmps210 → Yeg, func210 → Yei, ntmps34 → Yej, func34 → Yek, underlying42 → Yem, underlying35 → Yet, underlying40 → Yeu
open _root_.Nat renaming le_refl → Yd0, zero_le → Yec, ne_of_gt → Yeo, ne_of_lt → Yep, zero_add → Yeq, zero_mul → Yer
open Zb renaming refl → Yd1, setCell → Yen
open _root_.Option renaming some → Yd2
open Ext renaming refl → Yd3
open _root_.Go.World renaming cell?_alloc_lt → Yd4, frozen?_setCell → Yd7, setCell_drew → Yed, frozen?_alloc_old → Yef
open _root_.List renaming drop_succ_cons → Yd5, take_succ_cons → Yd6, length_eq_zero_iff → Yd8, drop_zero → Yea, take_zero → Yeb, nil_append → Yeh, length_append → Yel, getElem?_eq_none → Yes
open IntWalk renaming i64_in → Yee
set_option maxHeartbeats 4000000
set_option maxRecDepth 100000
variable {own ow own' : Nat → Nat}
variable {w wr w' : World}
variable {x k n m : Nat}
variable {ev e : Ev}
variable {l : Yb}
variable {p : Pol}
variable {r : Rw}
variable {v : Value}
variable {id : Int}
variable {xs : List Value}
variable {S : Nat → Prop}
variable {b : Wr}
variable {f : Int → Option Value}
section
attribute [local go_sem] Yed Zg Zf
structure Zam (own : Nat → Nat) (w : World) (eb : Nat) (ev : Ev) (ow : Nat → Nat) (wr : World) (x : Nat) (l : Yb) (p : Pol) : Prop where
 ext : Ext w own ow
 pol : Zv ow wr x l p
 only : Zb (Kb own) w wr
 eo : ow eb = 0
 eb : wr.heap[eb]? = some (.cells #[.int .i64 ev.d,.int .i64 ev.n,.int .i64 ev.k,.int .i64 ev.w] 93 (0,0))
theorem Zam.next {eb : Nat} {p' : Pol} (h : Zam own w eb ev ow wr x l p) (hq : Zao ow wr x l p' w') : ∃ ow',Zam own w eb ev ow' w' x l p' := by
 obtain ⟨ow',a1,a2,a3⟩ := hq
 have he := Ze h.eb
 exact ⟨ow',h.ext.trans h.only.size a1,a2,h.only.then a3 (fun i hi hT => by have q : 20 ≤ ow i ∧ ow i < 40 := hT; rw [h.ext i hi] at q; exact q),(a1 eb he).trans h.eo,a3.kept h.eb (fun e => by have := e.1; have := h.eo; omega)⟩
theorem Zam.sm {eb : Nat} (h : Zam own w eb ev ow wr x l p) (hs : Sm wr w') : Zam own w eb ev ow w' x l p :=
 ⟨h.ext,h.pol.sm hs,h.only.trans hs.only,h.eo,hs.block h.eb⟩
theorem Zam.no {eb : Nat} (h : Zam own w eb ev ow wr x l p) (hs : Zb No wr w') : Zam own w eb ev ow w' x l p :=
 ⟨h.ext,h.pol.no hs,h.only.trans hs.no,h.eo,hs.kept h.eb (fun h => h)⟩
theorem Zam.start (h : Zv own w x l p) (ev : Ev) : Zam own w w.heap.size ev (lab own w.heap.size 0) (w.alloc (.cells #[.int .i64 ev.d,.int .i64 ev.n,.int .i64 ev.k,.int .i64 ev.w] 93)) x l p :=
 ⟨(Yd3 w own).lab (Yd0 _) _,h.kept ((Yd3 w own).lab (Yd0 _) _) ((Yd1 No w).alloc _) (fun _ _ _ _ h => h),(Yd1 _ w).alloc _,Zn _ _ _,Zh w _⟩
theorem Zao.ofRw (h : Zv own w x l p) (a1 : Ext w own own') (a2 : X8 own' w' l.dx r) (a3 : Zb (DqL own) w w') : Zao own w x l { p with rw := r } w' :=
 ⟨own',a1,h.rows a1 a2 a3,a3.mono (fun _ _ h => h.pol)⟩
theorem Zao.ofFi {f : Fi} (h : Zv own w x l p) (a2 : Za7 own w' l.fx l.fl f) (a3 : Zb (FiL own) w w') : Zao own w x l { p with fi := f } w' :=
 ⟨own,Yd3 _ _,h.filter a2 a3,a3.mono (fun _ _ h => h.pol)⟩
theorem Zao.ofKeys {ks : List (Int × Int)} (h : Zv own w x l p) (hm : Zs w' l.km (kf ks) ks.length) (ht : w.mapTurned w' l.km) : Zao own w x l { p with keys := ks } w' := by
 obtain ⟨h1,h2⟩ := h.maps hm ht
 exact ⟨own,Yd3 _ _,h1,h2.mono (fun b _ e => by have o := h.ok; rw [e]; exact ⟨by omega,by omega⟩)⟩
def DoQ (own : Nat → Nat) (w : World) (x : Nat) (l : Yb) (r : Pol × List Int) (e : Ending) (w' : World) : Prop :=
 ∃ v n own',e = .returned (.tuple #[v,.int .i64 n]) ∧ Ext w own own' ∧ Zv own' w' x l r.1 ∧ Zb (Kb own) w w' ∧ Row own' 8 w' 3 1 v r.2.length (Y1 r.2) ∧ (∀ b,v.ownBlock = some b → w.heap.size ≤ b)
theorem Zam.done {eb : Nat} (h : Zam own w eb ev ow wr x l p) (n : Int) : DoQ own w x l (p,[]) (.returned (.tuple #[.slice none 0 0,.int .i64 n])) wr :=
 ⟨_,n,ow,rfl,h.ext,h.pol,h.only,Row.nil _ _ _ _ _,fun b hb => by simp [Value.ownBlock] at hb⟩
theorem Zam.settled {eb : Nat} {r : Pol × List Int} (h : Zam own w eb ev ow wr x l p) {ow' : Nat → Nat} (a1 : Ext wr ow ow') (a2 : Zv ow' w' x l r.1) (a3 : Zb (Kb ow) wr w') (a4 : Row ow' 8 w' 3 1 v r.2.length (Y1 r.2)) (a5 : ∀ b,v.ownBlock = some b → wr.heap.size ≤ b) : DoQ own w x l r (.returned (.tuple #[v,.int .i64 0])) w' :=
 ⟨v,0,ow',rfl,h.ext.trans h.only.size a1,a2,h.only.then a3 (fun i hi hT => by have q : 20 ≤ ow i ∧ ow i < 40 := hT; rw [h.ext i hi] at q; exact q),a4,fun b hb => Nat.le_trans h.only.size (a5 b hb)⟩
structure Zc7 (p : Pol) : Prop where
 num : Qe p
 ko : Yo p.keys
 ids : ∀ id,(Zk p.keys id).isSome = (p.rw.of id).isSome
theorem Zf5 (h : (r.of id).isSome = true) : ∃ k v,r.of id = some (k,v) := by
 cases ho : r.of id with
 | none => rw [ho] at h; cases h
 | some q => exact ⟨q.1,q.2,rfl⟩
theorem Zjo (h : Zv own w x l p) (d n k v : Int) (hd : d = 2 ∨ d = 3 ∨ d = 4) (hn : 0 ≤ n ∧ n ≤ 65536) (ht : (Zk p.keys n).isSome = false) :
  Calls Ydz 34 #[Pt x,.agg #[.int .i64 d,.int .i64 n,.int .i64 k,.int .i64 v]] w (DoQ own w x l (p,[])) := by
 have D0 := Ydy (Zam.start h ⟨d,n,k,v⟩)
 have M : Hid (Calls Ydz 61 #[Pt x,.agg #[.int .i64 d,.int .i64 n,.int .i64 k,.int .i64 v]] (w.alloc (.cells #[.int .i64 d,.int .i64 n,.int .i64 k,.int .i64 v] 93)) (Zkg (w.alloc (.cells #[.int .i64 d,.int .i64 n,.int .i64 k,.int .i64 v] 93)) 3)) := Ydy (by
  have hp := h.no ((Yd1 No w).alloc (.cells #[.int .i64 d,.int .i64 n,.int .i64 k,.int .i64 v] 93))
  rcases hd with rfl | rfl | rfl
  ·exact Zrb hp n k v hn ht
  ·exact Zrc hp n k v hn ht
  ·exact Zrd hp n k v hn ht)
 clear h ht hd hn
 go_enter Yek,Yej
 go_wp2_with fail
 refine (M.out).mono ?_
 rintro e w1 ⟨rfl,ho⟩
 have HD := Ydy (D0.out.no ho)
 clear ho
 go_wp2
 go_ret2
 exact HD.out.done 3
theorem Zxm (h : Zv own w x l p) (ok : Zc7 p) (hc : p.rw.count ≤ 400) (n k v : Int) (ht : (Zk p.keys n).isSome = true) :
  Calls Ydz 34 #[Pt x,.agg #[.int .i64 2,.int .i64 n,.int .i64 k,.int .i64 v]] w (DoQ own w x l (p.read n,[])) := by
 obtain ⟨kk,vv,hof⟩ := Zf5 (by rw [← ok.ids]; exact ht)
 have hn := Zce h.rw hof
 have D0 := Ydy (Zam.start h ⟨2,n,k,v⟩)
 have M := Ydy (Znt (h.no ((Yd1 No w).alloc (.cells #[.int .i64 2,.int .i64 n,.int .i64 k,.int .i64 v] 93))) n k v ⟨by omega,by omega⟩ ht)
 have R := Ydy (fun own1 w1 (hp : Zv own1 w1 x l p) => Zlu hp ok.num hc hof)
 obtain ⟨pr,hpr⟩ := Zi7 (p.read n)
 rw [hpr] at R ⊢
 clear h ht hn hpr ok hof
 go_enter Yek,Yej
 go_wp2_with fail
 refine (M.out).mono ?_
 rintro e w1 ⟨rfl,ho⟩
 have d1 := D0.out.no ho
 have e0 := Za (j:=0) d1.eb rfl
 have e1 := Za (j:=1) d1.eb rfl
 have HD := Ydy d1
 clear ho d1
 go_wp2_with fail
 refine (R.out _ _ HD.out.pol).mono ?_
 rintro e w2 ⟨rfl,hq⟩
 obtain ⟨ow2,d2⟩ := HD.out.next hq
 have e0 := Za (j:=0) d2.eb rfl
 have HD2 := Ydy d2
 clear hq d2
 go_wp2
 go_ret2
 exact HD2.out.done 0
theorem Zxl (h : Zv own w x l p) (ok : Zc7 p) (hc : p.rw.count ≤ 400) (n k v : Int) (ht : (Zk p.keys n).isSome = true) :
  Calls Ydz 34 #[Pt x,.agg #[.int .i64 4,.int .i64 n,.int .i64 k,.int .i64 v]] w (DoQ own w x l (p.drop n,[])) := by
 obtain ⟨kk,vv,hof⟩ := Zf5 (by rw [← ok.ids]; exact ht)
 have hn := Zce h.rw hof
 have D0 := Ydy (Zam.start h ⟨4,n,k,v⟩)
 have M := Ydy (Znv (h.no ((Yd1 No w).alloc (.cells #[.int .i64 4,.int .i64 n,.int .i64 k,.int .i64 v] 93))) n k v ⟨by omega,by omega⟩ ht)
 have R := Ydy (fun own1 w1 (hp : Zv own1 w1 x l p) => Zkv hp ok.ko hc hof ⟨by omega,by omega⟩)
 clear h ht hn ok hof
 go_enter Yek,Yej
 go_wp2_with fail
 refine (M.out).mono ?_
 rintro e w1 ⟨rfl,ho⟩
 have d1 := D0.out.no ho
 have e0 := Za (j:=0) d1.eb rfl
 have e1 := Za (j:=1) d1.eb rfl
 have HD := Ydy d1
 clear ho d1
 go_wp2_with fail
 refine (R.out _ _ HD.out.pol).mono ?_
 rintro e w2 ⟨rfl,hq⟩
 obtain ⟨ow2,d2⟩ := HD.out.next hq
 have e0 := Za (j:=0) d2.eb rfl
 have HD2 := Ydy d2
 clear hq d2
 go_wp2
 go_ret2
 exact HD2.out.done 0
theorem Ycw {u v : Int} (h : X8 own w x (r.re id u)) (hof : r.of id = some (k,v)) : (r.re id u).of id = some (k,u) := by
 obtain ⟨hk,hm⟩ := Ze0 hof
 refine h.of_get hk (t:=(id,u)) ?_
 rw [Zvw _ _ _ hk]
 unfold wre
 exact List.mem_map.2 ⟨(id,v),hm,by simp⟩
theorem Zej (r : Rw) (id u : Int) : (r.re id u).count = r.count := by simp [Rw.re,Rw.count,wre]
theorem Zlt (hr : X8 own w x p.rw) (f : Fi) {v : Int} (hof : p.rw.of id = some (k,v)) (hn : Qe p) : Qe (Zek p f id) ∧ (Zek p f id).rw.count = p.rw.count ∧ (Zek p f id).keys = p.keys ∧ (Zek p f id).cap = p.cap := by
 have hoc := hr.out_count hof
 have hk3 := (Ze0 hof).1
 by_cases hk : k = 1
 ·subst hk
  rw [Zdn hof]
  obtain ⟨a1,a2,a3,a4,_⟩ := Qe.count (p:={ p with fi := f,rw := ((p.rw.out id).push 2 (id,v)).pass 2 p.prot }) (hn.same rfl rfl rfl rfl rfl) true
  refine ⟨a1,?_,a3,a4⟩
  rw [a2]
  show (Rw.pass _ 2 p.prot).count = _
  rw [Zbi _ (by omega) (by omega),Vz _ (by omega)]
  omega
 ·rw [Zdm hof hk]
  obtain ⟨a1,a2,a3,a4,_⟩ := Qe.count (p:={ p with fi := f,rw := (p.rw.out id).push k (id,v) }) (hn.same rfl rfl rfl rfl rfl) true
  refine ⟨a1,?_,a3,a4⟩
  rw [a2]
  show (Rw.push _ k (id,v)).count = _
  rw [Vz _ hk3]
  omega
theorem Zqo (h : Zv own w x l p) (ok : Zc7 p) (hc : p.rw.count ≤ 400) (n k v : Int) (hv0 : 0 ≤ v) (hv1 : v ≤ p.cap) (ht : (Zk p.keys n).isSome = true) :
  Calls Ydz 34 #[Pt x,.agg #[.int .i64 3,.int .i64 n,.int .i64 k,.int .i64 v]] w (DoQ own w x l ((({ p with rw := p.rw.re n v } : Pol).read n).settle)) := by
 obtain ⟨kk,vv,hof⟩ := Zf5 (by rw [← ok.ids]; exact ht)
 have hn := Zce h.rw hof
 have hcap := ok.num.c1
 have D0 := Ydy (Zam.start h ⟨3,n,k,v⟩)
 have M := Ydy (Znu (h.no ((Yd1 No w).alloc (.cells #[.int .i64 3,.int .i64 n,.int .i64 k,.int .i64 v] 93))) n k v ⟨by omega,by omega⟩ ht hv0 hv1 hcap)
 have U := Ydy (fun own1 w1 (hp : Zv own1 w1 x l p) => Ydu hp.rw hof (u:=v) ⟨by omega,by omega⟩ hc)
 have HOK := Ydy ok
 have HOF := Ydy hof
 have HC := Ydy hc
 rw [Zf7]
 obtain ⟨f,hf⟩ := Zi7 (Kf ({ p with rw := p.rw.re n v } : Pol).fi (Kr { p with rw := p.rw.re n v } n))
 rw [hf]
 have HF := Ydy hf
 clear h ht hn hc ok hof hf
 go_enter Yek,Yej
 go_wp2_with fail
 refine (M.out).mono ?_
 rintro e w1 ⟨rfl,ho⟩
 have d1 := D0.out.no ho
 have e0 := Za (j:=0) d1.eb rfl
 have e1 := Za (j:=1) d1.eb rfl
 have e3 := Za (j:=3) d1.eb rfl
 have c3 : w1.cell? ⟨x,3,none⟩ = some (Pt l.dx) := Za d1.pol.block rfl
 have HD := Ydy d1
 clear ho d1
 go_wp2
 refine Z4 8 (by kernel_rfl) (by kernel_rfl) ?_
 intro W3 hc3 hf3 hs3 HW3
 have HSM : Hid (Sm w1 W3) := Ydy (by rw [← HW3.out]; exact ⟨rfl,rfl,rfl,rfl⟩)
 simp only [Yd6,Yeb,Yd5,Yea]
 iterate 8 still_step
 refine wpStill_nil ?_
 have HD3 := Ydy (HD.out.sm HSM.out)
 clear e0 e1 e3 c3 hc3 hf3 hs3 HW3
 go_wp2_with fail
 refine (U.out _ _ HD3.out.pol).mono ?_
 rintro e w4 ⟨rfl,own4,a1,a2,a3⟩
 obtain ⟨ow4,d4⟩ := HD3.out.next (Zao.ofRw HD3.out.pol a1 a2 a3)
 have e1 := Za (j:=1) d4.eb rfl
 have hof4 := Ycw a2 HOF.out
 have R := Ydy (Zlu d4.pol (HOK.out.num.same rfl rfl rfl rfl rfl) (by show (p.rw.re n v).count ≤ 400; rw [Zej]; exact HC.out) hof4)
 have hfa := Zlt (f:=f) d4.pol.rw hof4 (HOK.out.num.same rfl rfl rfl rfl rfl)
 have HD4 := Ydy d4
 have HFA := Ydy hfa
 clear a1 a2 a3 d4 hof4 hfa
 go_wp2_with fail
 refine (R.out).mono ?_
 rintro e w5 ⟨rfl,hq⟩
 rw [Zf7,HF.out] at hq
 obtain ⟨ow5,d5⟩ := HD4.out.next hq
 have e0 := Za (j:=0) d5.eb rfl
 obtain ⟨f1,f2,f3,f4⟩ := HFA.out
 have S := Ydy (Zhc d5.pol (by rw [f3]; exact HOK.out.ko) (by rw [f2]; show (p.rw.re n v).count ≤ 400; rw [Zej]; exact HC.out) f1.c0 f1.prot0.2)
 have HD5 := Ydy d5
 clear hq d5 f1 f2 f3 f4
 go_wp2_with fail
 refine (S.out).mono ?_
 rintro e w6 ⟨vv2,ow6,rfl,b1,b2,b3,b4,b5,b6⟩
 have HX := Ydy (HD5.out.settled b1 b2 b3 b5 b6)
 clear b1 b2 b3 b4 b5 b6
 go_wp2
 go_ret2
 exact HX.out
def Zhr (r : Rw) (id : Int) : Prop := ∃ k,k < 3 ∧ ∃ t ∈ r.get k,t.1 = id
theorem Ze8 {id : Int} {l : List Nw} : (Qd id l).isSome = true ↔ ∃ t ∈ l,t.1 = id := by
 induction l with
 | nil => simp [Qd]
 | cons a r ih =>
  rw [Qd]
  by_cases h : a.1 = id
  ·rw [if_pos h]; simp [h]
  ·rw [if_neg h,ih]; simp [h]
theorem Zj0 : (r.of id).isSome = true ↔ Zhr r id := by
 have h0 := @Ze8 id r.r0
 have h1 := @Ze8 id r.r1
 have h2 := @Ze8 id r.r2
 have hx : Zhr r id ↔ (∃ t ∈ r.r0,t.1 = id) ∨ (∃ t ∈ r.r1,t.1 = id) ∨ (∃ t ∈ r.r2,t.1 = id) := by
  constructor
  ·rintro ⟨k,hk,t,ht,e⟩
   have : k = 0 ∨ k = 1 ∨ k = 2 := by omega
   rcases this with rfl | rfl | rfl
   ·exact .inl ⟨t,ht,e⟩
   ·exact .inr (.inl ⟨t,ht,e⟩)
   ·exact .inr (.inr ⟨t,ht,e⟩)
  ·rintro (⟨t,ht,e⟩ | ⟨t,ht,e⟩ | ⟨t,ht,e⟩)
   ·exact ⟨0,by omega,t,ht,e⟩
   ·exact ⟨1,by omega,t,ht,e⟩
   ·exact ⟨2,by omega,t,ht,e⟩
 rw [hx,← h0,← h1,← h2]
 unfold Rw.of
 cases Qd id r.r0 with
 | some v => simp
 | none =>
  cases Qd id r.r1 with
  | some v => simp
  | none => cases Qd id r.r2 <;> simp
theorem Ze2 (most : Int) (l : List Nw) (t : Nw) : t ∈ l ↔ t ∈ (Xu most l).1 ∨ t ∈ (Xu most l).2 := by
 induction l with
 | nil => simp [Xu]
 | cons a r ih =>
  rw [Xu]
  split
  ·simp only [List.mem_cons]; rw [ih]; simp only [or_assoc]
  ·simp
theorem Zuo (hk : k < 3) (hk1 : k ≠ 1) (most : Int) (id : Int) : Zhr (r.pass k most) id ↔ Zhr r id := by
 constructor
 ·rintro ⟨j,hj,t,ht,e⟩
  rw [Jc _ hk _ hj] at ht
  by_cases h1 : j = 1
  ·rw [if_pos h1] at ht
   rcases List.mem_append.1 ht with a | a
   ·exact ⟨1,by omega,t,a,e⟩
   ·exact ⟨k,hk,t,(Ze2 most _ t).2 (.inl a),e⟩
  ·rw [if_neg h1] at ht
   by_cases h2 : j = k
   ·rw [if_pos h2] at ht
    exact ⟨k,hk,t,(Ze2 most _ t).2 (.inr ht),e⟩
   ·rw [if_neg h2] at ht
    exact ⟨j,hj,t,ht,e⟩
 ·rintro ⟨j,hj,t,ht,e⟩
  by_cases h2 : j = k
  ·subst h2
   rcases (Ze2 most _ t).1 ht with a | a
   ·exact ⟨1,by omega,t,by rw [Jc _ hk _ (by omega),if_pos rfl]; exact List.mem_append_right _ a,e⟩
   ·exact ⟨j,hj,t,by rw [Jc _ hk _ hj,if_neg hk1,if_pos rfl]; exact a,e⟩
  ·by_cases h1 : j = 1
   ·subst h1
    exact ⟨1,by omega,t,by rw [Jc _ hk _ (by omega),if_pos rfl]; exact List.mem_append_left _ ht,e⟩
   ·exact ⟨j,hj,t,by rw [Jc _ hk _ hj,if_neg h1,if_neg h2]; exact ht,e⟩
theorem Zq4 (p : Pol) (hit : Bool) (id : Int) : Zhr (p.count hit).rw id ↔ Zhr p.rw id := by
 rw [Zgm]
 by_cases hd : p.per ≤ (Yw p.cl hit).hits + (Yw p.cl hit).misses
 ·rw [if_pos hd]; exact Zuo (by omega) (by omega) _ _
 ·rw [if_neg hd]
theorem Zqt {a b : Bool} (h : a = true ↔ b = true) : a = b := by cases a <;> cases b <;> simp_all
theorem Zyh (h : ¬ Zhr r id) : r.of id = none := by
 cases ho : r.of id with
 | none => rfl
 | some q => exact absurd (Zj0.1 (by rw [ho]; rfl)) h
theorem Yac (h : Zv own w x l p) (ok : Zc7 p) (hc : p.rw.count ≤ 300) (hkl : p.keys.length ≤ 1000) (n k v : Int) (hn : 1 ≤ n ∧ n ≤ 65536) (hv0 : 0 ≤ v) (hv1 : v ≤ p.cap) (ht : Zk p.keys n = none) :
  Calls Ydz 34 #[Pt x,.agg #[.int .i64 1,.int .i64 n,.int .i64 k,.int .i64 v]] w (DoQ own w x l (let p1 := ({ p with fi := Kf p.fi k } : Pol).count false; ({ p1 with rw := p1.rw.push 0 (n,v),keys := Yn p1.keys n k } : Pol).settle)) := by
 have hcap := ok.num.c1
 have D0 := Ydy (Zam.start h ⟨1,n,k,v⟩)
 have M := Ydy (Zx8 (h.no ((Yd1 No w).alloc (.cells #[.int .i64 1,.int .i64 n,.int .i64 k,.int .i64 v] 93))) n k v hn hv0 hv1 hcap ht)
 have hno : ¬ Zhr p.rw n := fun hh => by
  have := Zj0.2 hh
  rw [← ok.ids,ht] at this
  cases this
 obtain ⟨f,hf⟩ := Zi7 (Kf p.fi k)
 have RC : Hid (∀ own1 w1 (hp : Zv own1 w1 x l p),Calls Ydz 62 #[Pt l.fx,.int .i64 k] w1 fun e w' => e = .returned (.tuple #[]) ∧ Za7 own1 w' l.fx l.fl f ∧ Zb (FiL own1) w1 w') := Ydy (fun own1 w1 hp => by
  have := Zg7 hp.fi k
  unfold Zw7 at this
  rw [hf] at this
  exact this)
 rw [hf]
 have hn1 : Qe ({ p with fi := f } : Pol) := ok.num.same rfl rfl rfl rfl rfl
 obtain ⟨g1,g2,g3,g4,g5⟩ := hn1.count false
 have gh := Zq4 ({ p with fi := f } : Pol) false n
 have HN1 := Ydy hn1
 have G := Ydy (⟨g1,g2,g3⟩ : Qe (({ p with fi := f } : Pol).count false) ∧ (({ p with fi := f } : Pol).count false).rw.count = p.rw.count ∧ (({ p with fi := f } : Pol).count false).keys = p.keys)
 have hno2 : ¬ Zhr (({ p with fi := f } : Pol).count false).rw n := fun hh => hno (gh.1 hh)
 have HNO := Ydy (Zyh hno2)
 have HKO := Ydy ok.ko
 have HC := Ydy hc
 have HKL := Ydy hkl
 have HT := Ydy ht
 obtain ⟨hn0,hn9⟩ := hn
 clear h hc ok ht hf hno hno2 gh g1 g2 g3 g4 g5 hn1 hkl
 go_enter Yek,Yej
 go_wp2_with fail
 refine (M.out).mono ?_
 rintro e w1 ⟨rfl,ho⟩
 have d1 := D0.out.no ho
 have e0 := Za (j:=0) d1.eb rfl
 have e2 := Za (j:=2) d1.eb rfl
 have c2 : w1.cell? ⟨x,2,none⟩ = some (Pt l.fx) := Za d1.pol.block rfl
 have HD := Ydy d1
 clear ho d1
 go_wp2
 refine Z4 6 (by kernel_rfl) (by kernel_rfl) ?_
 intro W3 hc3 hf3 hs3 HW3
 have HSM : Hid (Sm w1 W3) := Ydy (by rw [← HW3.out]; exact ⟨rfl,rfl,rfl,rfl⟩)
 simp only [Yd6,Yeb,Yd5,Yea]
 iterate 6 still_step
 refine wpStill_nil ?_
 have HD3 := Ydy (HD.out.sm HSM.out)
 clear e0 e2 c2 hc3 hf3 hs3 HW3
 go_wp2_with fail
 refine (RC.out _ _ HD3.out.pol).mono ?_
 rintro e w4 ⟨rfl,a1,a2⟩
 obtain ⟨ow4,d4⟩ := HD3.out.next (Zao.ofFi HD3.out.pol a1 a2)
 have CT := Ydy (Zeu d4.pol HN1.out (by have := HC.out; show p.rw.count ≤ 400; omega) false)
 have HD4 := Ydy d4
 clear a1 a2 d4
 generalize hp2 : ({ p with fi := f } : Pol).count false = p2 at *
 go_wp2_with fail
 refine (CT.out).mono ?_
 rintro e w5 ⟨rfl,hq⟩
 obtain ⟨ow5,d5⟩ := HD4.out.next hq
 have e1 := Za (j:=1) d5.eb rfl
 have e3 := Za (j:=3) d5.eb rfl
 have c3 : w5.cell? ⟨x,3,none⟩ = some (Pt l.dx) := Za d5.pol.block rfl
 have HD5 := Ydy d5
 have HP2 := Ydy hp2
 clear hq d5 hp2
 go_wp2
 refine Z4 8 (by kernel_rfl) (by kernel_rfl) ?_
 intro W3 hc3 hf3 hs3 HW3
 have HSM5 : Hid (Sm w5 W3) := Ydy (by rw [← HW3.out]; exact ⟨rfl,rfl,rfl,rfl⟩)
 simp only [Yd6,Yeb,Yd5,Yea]
 iterate 8 still_step
 refine wpStill_nil ?_
 have d6 := HD5.out.sm HSM5.out
 have PU : Hid (Calls Ydz 64 #[Pt l.dx,.int .i64 0,.int .i64 n,.int .i64 v] W3 (RwQ ow5 W3 l.dx (p2.rw.push 0 (n,v)))) := Ydy (Ybd d6.pol.rw (k:=0) (by omega) HNO.out ⟨hn0,hn9⟩ ⟨hv0,by omega⟩ (by rw [G.out.2.1]; have := HC.out; omega))
 have HD6 := Ydy d6
 clear d6 e1 e3 c3 hc3 hf3 hs3 HW3
 go_wp2_with fail
 refine (PU.out).mono ?_
 rintro e w7 ⟨rfl,own7,a1,a2,a3⟩
 obtain ⟨ow7,d7⟩ := HD6.out.next (Zao.ofRw HD6.out.pol a1 a2 a3)
 have e1 := Za (j:=1) d7.eb rfl
 have e2 := Za (j:=2) d7.eb rfl
 have c4 : w7.cell? ⟨x,4,none⟩ = some (.map (some l.km)) := Za d7.pol.block rfl
 have HD7 := Ydy d7
 clear a1 a2 a3 d7
 go_wp2
 refine Z4 8 (by kernel_rfl) (by kernel_rfl) ?_
 intro W3 hc3 hf3 hs3 HW3
 have HSM7 : Hid (Sm w7 W3) := Ydy (by rw [← HW3.out]; exact ⟨rfl,rfl,rfl,rfl⟩)
 simp only [Yd6,Yeb,Yd5,Yea]
 iterate 8 still_step
 refine wpStill_nil ?_
 have HD8 := Ydy (HD7.out.sm HSM7.out)
 have hlen : ({ p2 with rw := p2.rw.push 0 (n,v) } : Pol).keys.length < 1000000 := by
  show p2.keys.length < 1000000
  rw [G.out.2.2]; have := HKL.out; omega
 clear e1 e2 c4 hc3 hf3 hs3 HW3
 go_wp2_with (refine Y0 (by rfl) (t:=60) (by rfl) (e:=3) Tryz.underlying60 (b:=l.km) (by rfl) HD8.out.pol.keys hlen (k:=n) (val:=.int .i64 k) (by rfl) (by rfl) ⟨by omega,by omega⟩ ?_; intro w9 hm htt; have HM := Ydy hm; have HTT := Ydy htt; clear hm htt)
 have hko2 : Yo p2.keys := by rw [G.out.2.2]; exact HKO.out
 have hks : Zs w9 l.km (kf (Yn p2.keys n k)) (Yn p2.keys n k).length := by
  have h := HM.out.eq (g:=kf (Yn p2.keys n k)) (fun i _ => Zgw _ _ _ _)
  rw [Kw] at h
  rw [Xk hko2]
  exact h
 obtain ⟨ow9,d9⟩ := HD8.out.next (Zao.ofKeys HD8.out.pol hks HTT.out)
 have S := Ydy (Zhc d9.pol (hko2.put n k) (by show (p2.rw.push 0 (n,v)).count ≤ 400; rw [Vz _ (by omega),G.out.2.1]; have := HC.out; omega) G.out.1.c0 G.out.1.prot0.2)
 have HD9 := Ydy d9
 clear hko2 hks d9
 refine S.out.mono ?_
 rintro e w10 ⟨vv2,ow10,rfl,b1,b2,b3,b4,b5,b6⟩
 have HX := Ydy (HD9.out.settled b1 b2 b3 b5 b6)
 clear b1 b2 b3 b4 b5 b6
 go_wp2
 go_ret2
 exact HX.out
end
theorem Zwh (P : Program) (size : Nat) {tx e : TypeId} (ht : P.underlying tx = some (.slice e)) (a : Option Addr) (c : Nat) (w : World) : Src P size tx (.slice a 0 c) 0 [] w := by
 cases a with
 | none => exact Src.ofNil w ht c
 | some a => exact Src.ofSlice w ht a 0 c [] (by simp) (by simp) (by simp)
def Zc4 (w : World) (size : Nat) (v : Value) (n : Nat) (xs : List Value) : Prop :=
 xs.length = n * size ∧ ∃ a c,v = .slice a n c ∧ (n = 0 ∨ ∃ ad,a = some ad ∧ ∀ j u,xs[j]? = some u → w.cell? (ad.add j) = some u)
theorem Qs (g o j : Nat) : (⟨g,o,none⟩ : Addr).add j = ⟨g,o + j,none⟩ := by unfold Addr.add; split <;> simp_all
theorem Row.src {lab : Nat} {e size : Nat} (h : Row own lab w e size v n xs) : Zc4 w size v n xs := by
 refine ⟨h.1.1,?_⟩
 rcases h.form with ⟨rfl,rfl,_⟩ | ⟨g,cap,rfl,_,_,_,_,_,hc⟩
 ·exact ⟨none,0,rfl,.inl rfl⟩
 ·exact ⟨_,_,rfl,.inr ⟨_,rfl,fun j u hu => by rw [Qs,Yeq]; exact hc j u hu⟩⟩
theorem Zc4.only {size : Nat} (h : Zc4 w size v n xs) (ho : Zb S w w') (hS : ∀ b,¬ S b) : Zc4 w' size v n xs := by
 obtain ⟨h1,a,c,h2,h3⟩ := h
 refine ⟨h1,a,c,h2,?_⟩
 rcases h3 with h3 | ⟨ad,h3,h4⟩
 ·exact .inl h3
 ·refine .inr ⟨ad,h3,fun j u hu => ?_⟩
  have h5 := h4 j u hu
  have hlt := World.block_lt_of_cell? w _ h5
  rw [World.cell?_of_block (ho.block _ hlt (hS _))]
  exact h5
theorem Ydj : ElT 42 44 4 32 := ElT.mk' (z:=.agg #[.int .i64 0,.int .i64 0,.int .i64 0,.int .i64 0]) Yem (by kernel_rfl) rfl (by decide) (by decide)
theorem Vb {ops : Array Oper} {rest : List Oper} {o : Oper} {a : Act} {Q : Exit → Act → World → Prop} (hgd : o.guard = none) (s x : Operand) (t : TypeId)
  (ho : o.op = .call { callee := .builtin .append,args := #[s,x],argTypes := #[t,t] }) {e size bytes : Nat} (E : ElT t e size bytes)
  {own : Nat → Nat} {lab : Nat} {v : Value} {n : Nat} {xs : List Value} (hs : a.eval s = v) (hR : Row own lab w e size v n xs) {v2 : Value} {m : Nat} {ys : List Value}
  (hx : a.eval x = v2) (hR2 : Zc4 w size v2 m ys) (h1 : ∀ u ∈ ys,u.oneCell' = true) (hn : n + m ≤ 1000000)
  (hK : ∀ v' w' own',Row own' lab w' e size v' (n + m) (xs ++ ys) → Ext w own own' → Zb (fun b => v.ownBlock = some b) w w' → (∀ b,v'.ownBlock = some b → v.ownBlock = some b ∨ w.heap.size ≤ b) → wpList Ydz ops Q rest (a.put o.dst v') w') :
  wpList Ydz ops Q (o :: rest) a w := by
 obtain ⟨i,z,hi,hz0,hz1,hz2,hz3⟩ := E.hi
 by_cases hm : m = 0
 ·subst hm
  have hys : ys = [] := by
   have := hR2.1
   rw [Yer] at this
   exact Yd8.1 this
  subst hys
  have hv2 : ∃ a2 c2,v2 = .slice a2 0 c2 := by
   obtain ⟨a2,c2,h,_⟩ := hR2.2
   exact ⟨a2,c2,h⟩
  obtain ⟨a2,c2,rfl⟩ := hv2
  have hv : ∃ b0 sl sc,v = .slice b0 sl sc ∧ sl ≤ sc := by
   rcases hR.form with ⟨h,_⟩ | ⟨g,cap,h,_,_,h2,_⟩
   ·exact ⟨_,_,_,h,Yd0 _⟩
   ·exact ⟨_,_,_,h,h2⟩
  obtain ⟨b0,sl,sc,rfl,hle⟩ := hv
  have hrun := run_append_nothing (P:=Ydz) w t t o.type e i E.ht hi b0 sl sc hle (.slice a2 0 c2) (Zwh _ _ E.ht _ _ _)
  refine wpList_plain hgd fun K hK' => ?_
  unfold Oper.wp
  simp [execOp,ho,resolve,invoke,builtin,hs,hx,hrun,Result.andThen]
  refine hK' _ _ (hK _ w own (by rw [List.append_nil]; exact hR) (Yd3 _ _) (Yd1 _ _) (fun b hb => .inl hb))
 ·obtain ⟨a2,cap2,rfl,hc2⟩ := hR2.2
  have hl2 := hR2.1
  rcases hc2 with h | ⟨ad,rfl,hc2⟩
  ·exact absurd h hm
  ·have hby : (n + m) * bytes ≤ 1000000 * 100 := Nat.mul_le_mul hn E.small
   refine wpList_append_lies w hgd s x t ho 0 e i z size bytes E.ht hi hz0 hz1 hz2 hz3 E.pos v n xs hs hR.1 ad m cap2 ys hx hl2 hc2 h1 (by omega) (by unfold maxLen; omega) (by omega) (Yec _) w.heap.size rfl ?_
   ·intro g cap w' r1 r2 r3 r4
    refine hK _ w' (ext own w.heap.size lab) ⟨r1,fun g' hg' => ?_⟩ (Jp _ _ _) ⟨r2.os,r2.tape,r2.output,r2.size,fun b hb hne => r2.block b hb (fun e => hne e.symm)⟩ (fun b hb => ?_)
    ·simp only [Value.ownBlock,Yd2.injEq] at hg'
     subst hg'
     rcases r3 with h4 | h4
     ·rw [Zz (hR.lt h4)]; exact hR.2 _ h4
     ·exact Jz (by omega)
    ·simp only [Value.ownBlock,Yd2.injEq] at hb
     subst hb
     rcases r3 with h4 | h4
     ·exact .inl h4
     ·exact .inr (by omega)
def Zml (own : Nat → Nat) (w : World) (lab e size n : Nat) (xs : List Value) (r : Ending) (w' : World) : Prop :=
 ∃ v own',r = .returned v ∧ Ext w own own' ∧ Row own' lab w' e size v n xs ∧ Zb No w w' ∧ (∀ b,v.ownBlock = some b → w.heap.size ≤ b)
theorem Zxh (own : Nat → Nat) (lab2 : Nat) (h : Zc4 w 4 v n xs) (h1 : ∀ u ∈ xs,u.oneCell' = true) (hn : n ≤ 1000000) :
  Calls Ydz 35 #[v] w (Zml own w lab2 93 4 n xs) := by
 obtain ⟨hl,a,c,rfl,hc⟩ := h
 cases a with
 | none =>
  have h0 : n = 0 := by
   rcases hc with h | ⟨ad,h,_⟩
   ·exact h
   ·cases h
  subst h0
  have hx : xs = [] := by rw [Yer] at hl; exact Yd8.1 hl
  subst hx
  have he := Lib.run_eql_slice_nil (P:=Ydz) w (e:=93) 35 none 0 c 0 0 Yet
  clear hc hl
  go_enter Tryz.func35,Tryz.ntmps35
  go_wp2
  go_ret
  exact ⟨_,own,rfl,Yd3 _ _,Row.nil _ _ _ _ _,Yd1 _ _,fun b hb => by simp [Value.ownBlock] at hb⟩
 | some ad =>
  have he := Lib.run_eql_slice_nil (P:=Ydz) w (e:=93) 35 (some ad) n c 0 0 Yet
  have HS : Hid (Zc4 (w.alloc (.cells #[] 93)) 4 (.slice (some ad) n c) n xs) := Ydy (Zc4.only (S:=fun _ => False) ⟨hl,_,_,rfl,hc⟩ ((Yd1 _ w).alloc _) (fun _ h => h))
  have HR : Hid (Row (lab own w.heap.size lab2) lab2 (w.alloc (.cells #[] 93)) 93 4 (.slice (some ⟨w.heap.size,0,none⟩) 0 0) 0 []) := Ydy ⟨⟨by simp,.inr ⟨w.heap.size,0,#[],rfl,Yec _,Zh w _,Yd0 _,by unfold maxLen; omega,by simp,by simp⟩⟩,fun g hg => by simp only [Value.ownBlock,Yd2.injEq] at hg; subst hg; exact Zn _ _ _⟩
  clear hc hl
  go_enter Tryz.func35,Tryz.ntmps35
  go_wp2_with (at_builtin; refine Vb (by rfl) _ _ 35 (by rfl) Zjp (by rfl) HR.out (by rfl) HS.out h1 (by omega) ?_; intro v2 w2 own2 r2 x2 o2 f2; have R2 := Ydy r2; have X2 := Ydy x2; have O2 := Ydy o2; have F2 := Ydy f2; clear r2 x2 o2 f2)
  go_ret
  have ho : Zb No w w2 := ((Yd1 No w).alloc _).then (T:=fun b => some w.heap.size = some b) (O2.out.mono (fun b _ e => e)) (fun i hi e => by have e := Yd2.inj e; omega)
  have hr := R2.out
  rw [Yeq,Yeh] at hr
  refine ⟨v2,own2,rfl,((Yd3 w own).lab (Yd0 _) _).trans (by simp) X2.out,hr,ho,fun b hb => ?_⟩
  rcases F2.out b hb with e | e
  ·simp only [Value.ownBlock,Yd2.injEq] at e; omega
  ·simp at e; omega
theorem Zxi (own : Nat → Nat) (lab2 : Nat) (h : Zc4 w 8 v n xs) (h1 : ∀ u ∈ xs,u.oneCell' = true) (hn : n ≤ 1000000) :
  Calls Ydz 37 #[v] w (Zml own w lab2 98 8 n xs) := by
 obtain ⟨hl,a,c,rfl,hc⟩ := h
 cases a with
 | none =>
  have h0 : n = 0 := by
   rcases hc with h | ⟨ad,h,_⟩
   ·exact h
   ·cases h
  subst h0
  have hx : xs = [] := by rw [Yer] at hl; exact Yd8.1 hl
  subst hx
  have he := Lib.run_eql_slice_nil (P:=Ydz) w (e:=98) 40 none 0 c 0 0 Yeu
  clear hc hl
  go_enter Tryz.func37,Tryz.ntmps37
  go_wp2
  go_ret
  exact ⟨_,own,rfl,Yd3 _ _,Row.nil _ _ _ _ _,Yd1 _ _,fun b hb => by simp [Value.ownBlock] at hb⟩
 | some ad =>
  have he := Lib.run_eql_slice_nil (P:=Ydz) w (e:=98) 40 (some ad) n c 0 0 Yeu
  have HS : Hid (Zc4 (w.alloc (.cells #[] 98)) 8 (.slice (some ad) n c) n xs) := Ydy (Zc4.only (S:=fun _ => False) ⟨hl,_,_,rfl,hc⟩ ((Yd1 _ w).alloc _) (fun _ h => h))
  have HR : Hid (Row (lab own w.heap.size lab2) lab2 (w.alloc (.cells #[] 98)) 98 8 (.slice (some ⟨w.heap.size,0,none⟩) 0 0) 0 []) := Ydy ⟨⟨by simp,.inr ⟨w.heap.size,0,#[],rfl,Yec _,Zh w _,Yd0 _,by unfold maxLen; omega,by simp,by simp⟩⟩,fun g hg => by simp only [Value.ownBlock,Yd2.injEq] at hg; subst hg; exact Zn _ _ _⟩
  clear hc hl
  go_enter Tryz.func37,Tryz.ntmps37
  go_wp2_with (at_builtin; refine Vb (by rfl) _ _ 40 (by rfl) Zgn (by rfl) HR.out (by rfl) HS.out h1 (by omega) ?_; intro v2 w2 own2 r2 x2 o2 f2; have R2 := Ydy r2; have X2 := Ydy x2; have O2 := Ydy o2; have F2 := Ydy f2; clear r2 x2 o2 f2)
  go_ret
  have ho : Zb No w w2 := ((Yd1 No w).alloc _).then (T:=fun b => some w.heap.size = some b) (O2.out.mono (fun b _ e => e)) (fun i hi e => by have e := Yd2.inj e; omega)
  have hr := R2.out
  rw [Yeq,Yeh] at hr
  refine ⟨v2,own2,rfl,((Yd3 w own).lab (Yd0 _) _).trans (by simp) X2.out,hr,ho,fun b hb => ?_⟩
  rcases F2.out b hb with e | e
  ·simp only [Value.ownBlock,Yd2.injEq] at e; omega
  ·simp at e; omega
theorem Zxg (own : Nat → Nat) (lab2 : Nat) (h : Zc4 w 4 v n xs) (h1 : ∀ u ∈ xs,u.oneCell' = true) (hn : n ≤ 1000000) :
  Calls Ydz 25 #[v] w (Zml own w lab2 44 4 n xs) := by
 obtain ⟨hl,a,c,rfl,hc⟩ := h
 cases a with
 | none =>
  have h0 : n = 0 := by
   rcases hc with h | ⟨ad,h,_⟩
   ·exact h
   ·cases h
  subst h0
  have hx : xs = [] := by rw [Yer] at hl; exact Yd8.1 hl
  subst hx
  have he := Lib.run_eql_slice_nil (P:=Ydz) w (e:=44) 42 none 0 c 0 0 Yem
  clear hc hl
  go_enter Tryz.func25,Tryz.ntmps25
  go_wp2
  go_ret
  exact ⟨_,own,rfl,Yd3 _ _,Row.nil _ _ _ _ _,Yd1 _ _,fun b hb => by simp [Value.ownBlock] at hb⟩
 | some ad =>
  have he := Lib.run_eql_slice_nil (P:=Ydz) w (e:=44) 42 (some ad) n c 0 0 Yem
  have HS : Hid (Zc4 (w.alloc (.cells #[] 44)) 4 (.slice (some ad) n c) n xs) := Ydy (Zc4.only (S:=fun _ => False) ⟨hl,_,_,rfl,hc⟩ ((Yd1 _ w).alloc _) (fun _ h => h))
  have HR : Hid (Row (lab own w.heap.size lab2) lab2 (w.alloc (.cells #[] 44)) 44 4 (.slice (some ⟨w.heap.size,0,none⟩) 0 0) 0 []) := Ydy ⟨⟨by simp,.inr ⟨w.heap.size,0,#[],rfl,Yec _,Zh w _,Yd0 _,by unfold maxLen; omega,by simp,by simp⟩⟩,fun g hg => by simp only [Value.ownBlock,Yd2.injEq] at hg; subst hg; exact Zn _ _ _⟩
  clear hc hl
  go_enter Tryz.func25,Tryz.ntmps25
  go_wp2_with (at_builtin; refine Vb (by rfl) _ _ 42 (by rfl) Ydj (by rfl) HR.out (by rfl) HS.out h1 (by omega) ?_; intro v2 w2 own2 r2 x2 o2 f2; have R2 := Ydy r2; have X2 := Ydy x2; have O2 := Ydy o2; have F2 := Ydy f2; clear r2 x2 o2 f2)
  go_ret
  have ho : Zb No w w2 := ((Yd1 No w).alloc _).then (T:=fun b => some w.heap.size = some b) (O2.out.mono (fun b _ e => e)) (fun i hi e => by have e := Yd2.inj e; omega)
  have hr := R2.out
  rw [Yeq,Yeh] at hr
  refine ⟨v2,own2,rfl,((Yd3 w own).lab (Yd0 _) _).trans (by simp) X2.out,hr,ho,fun b hb => ?_⟩
  rcases F2.out b hb with e | e
  ·simp only [Value.ownBlock,Yd2.injEq] at e; omega
  ·simp at e; omega
section
attribute [local go_sem] Yed Zg Zf
def Zga (p : Pol) (e : Ev) : Prop :=
 (e.d = 1 ∧ (1 ≤ e.n ∧ e.n ≤ 65536) ∧ (0 ≤ e.w ∧ e.w ≤ p.cap) ∧ Zk p.keys e.n = none) ∨ (e.d = 2 ∧ 0 ≤ e.n ∧ e.n ≤ 65536) ∨ (e.d = 3 ∧ (0 ≤ e.n ∧ e.n ≤ 65536) ∧ 0 ≤ e.w ∧ e.w ≤ p.cap) ∨ (e.d = 4 ∧ 0 ≤ e.n ∧ e.n ≤ 65536)
theorem Zl4 (h : e.d = 1) : p.step e = (let p1 := ({ p with fi := Kf p.fi e.k } : Pol).count false; ({ p1 with rw := p1.rw.push 0 (e.n,e.w),keys := Yn p1.keys e.n e.k } : Pol).settle) := by
 unfold Pol.step
 rw [if_pos h]
theorem Vn (h : e.d ≠ 1) (ht : (Zk p.keys e.n).isSome = false) : p.step e = (p,[]) := by
 unfold Pol.step
 rw [if_neg h,if_neg (by rw [ht]; decide)]
theorem Zl6 (h : e.d = 3) (ht : (Zk p.keys e.n).isSome = true) : p.step e = (({ p with rw := p.rw.re e.n e.w } : Pol).read e.n).settle := by
 unfold Pol.step
 rw [if_neg (by omega),if_pos ht,if_pos h]
theorem Zi3 (h : e.d = 2) (ht : (Zk p.keys e.n).isSome = true) : p.step e = (p.read e.n,[]) := by
 unfold Pol.step
 rw [if_neg (by omega),if_pos ht,if_neg (by omega),if_pos h]
theorem Zl5 (h : e.d = 4) (ht : (Zk p.keys e.n).isSome = true) : p.step e = (p.drop e.n,[]) := by
 unfold Pol.step
 rw [if_neg (by omega),if_pos ht,if_neg (by omega),if_neg (by omega)]
theorem Zt1 (h : Zv own w x l p) (ok : Zc7 p) (hc : p.rw.count ≤ 300) (hkl : p.keys.length ≤ 1000) (he : Zga p e) :
  Calls Ydz 34 #[Pt x,evA e] w (DoQ own w x l (p.step e)) := by
 obtain ⟨d,n,k,v⟩ := e
 unfold Zga at he
 simp only at he
 unfold evA
 simp only
 rcases he with ⟨rfl,h1,h2,h3⟩ | ⟨rfl,h1⟩ | ⟨rfl,h1,h2⟩ | ⟨rfl,h1⟩
 ·rw [Zl4 rfl]
  exact Yac h ok hc hkl n k v h1 h2.1 h2.2 h3
 ·cases ht : (Zk p.keys n).isSome with
  | false => rw [Vn (by show (2 : Int) ≠ 1; decide) ht]; exact Zjo h 2 n k v (.inl rfl) h1 ht
  | true => rw [Zi3 rfl ht]; exact Zxm h ok (by omega) n k v ht
 ·cases ht : (Zk p.keys n).isSome with
  | false => rw [Vn (by show (3 : Int) ≠ 1; decide) ht]; exact Zjo h 3 n k v (.inr (.inl rfl)) h1 ht
  | true => rw [Zl6 rfl ht]; exact Zqo h ok (by omega) n k v h2.1 h2.2 ht
 ·cases ht : (Zk p.keys n).isSome with
  | false => rw [Vn (by show (4 : Int) ≠ 1; decide) ht]; exact Zjo h 4 n k v (.inr (.inr rfl)) h1 ht
  | true => rw [Zl5 rfl ht]; exact Zxl h ok (by omega) n k v ht
def Qu (l : List Ev) : List Value := l.flatMap fun e => [.int .i64 e.d,.int .i64 e.n,.int .i64 e.k,.int .i64 e.w]
theorem Zm8 (l : List Ev) (h : l[k]? = some e) : (Qu l)[k * 4]? = some (.int .i64 e.d) ∧ (Qu l)[k * 4 + 1]? = some (.int .i64 e.n) ∧ (Qu l)[k * 4 + 2]? = some (.int .i64 e.k) ∧ (Qu l)[k * 4 + 3]? = some (.int .i64 e.w) := by
 induction l generalizing k with
 | nil => simp at h
 | cons a r ih =>
  cases k with
  | zero =>
   simp only [List.getElem?_cons_zero,Yd2.injEq] at h
   subst h
   simp [Qu]
  | succ k =>
   have := ih (k:=k) (by simpa using h)
   rw [show (k + 1) * 4 = k * 4 + 4 from by omega,show k * 4 + 4 + 1 = k * 4 + 1 + 4 from by omega,show k * 4 + 4 + 2 = k * 4 + 2 + 4 from by omega,show k * 4 + 4 + 3 = k * 4 + 3 + 4 from by omega]
   simpa [Qu] using this
theorem Zm9 (l : List Ev) : ∀ u ∈ Qu l,u.oneCell' = true := by
 intro u hu
 obtain ⟨e,_,h⟩ := List.mem_flatMap.1 hu
 simp only [List.mem_cons,List.not_mem_nil,or_false] at h
 rcases h with rfl | rfl | rfl | rfl <;> rfl
theorem Ycn (l : List Int) : (Y1 l).length = l.length := by simp [Y1]
theorem Zuu (l : List Int) : ∀ u ∈ Y1 l,u.oneCell' = true := by
 intro u hu
 obtain ⟨e,_,rfl⟩ := List.mem_map.1 hu
 rfl
theorem Vk (p : Pol) (l : List Ev) (e : Ev) : p.play (l ++ [e]) = (((p.play l).1.step e).1,(p.play l).2 ++ ((p.play l).1.step e).2) := by
 induction l generalizing p with
 | nil => show ((p.step e).1,(p.step e).2 ++ []) = ((p.step e).1,[] ++ (p.step e).2); rw [List.append_nil,Yeh]
 | cons a r ih =>
  show (((p.step a).1.play (r ++ [e])).1,(p.step a).2 ++ ((p.step a).1.play (r ++ [e])).2) = _
  rw [ih]
  show (_,_) = ((((p.step a).1.play r).1.step e).1,((p.step a).2 ++ ((p.step a).1.play r).2) ++ (((p.step a).1.play r).1.step e).2)
  rw [List.append_assoc]
def Zjf (p : Pol) (l : List Ev) : Prop := ∀ k e,l[k]? = some e → Zc7 (p.play (l.take k)).1 ∧ Zga (p.play (l.take k)).1 e ∧ (p.play (l.take k)).1.rw.count ≤ 300 ∧ (p.play (l.take k)).1.keys.length ≤ 1000 ∧ ((p.play (l.take k)).2 ++ ((p.play (l.take k)).1.step e).2).length ≤ 1000000
def Zzs (own : Nat → Nat) (w : World) (x : Nat) (l : Yb) (p0 : Pol) (evs : List Ev) (k : Nat) (v : Value) (wr : World) : Prop :=
 ∃ v0 own' q Qh,v0 = v ∧ (Ext w own own' ∧ Zv own' wr x l q ∧ Zb (Kb own) w wr) ∧ Row own' 8 wr 3 1 v0 Qh.length (Y1 Qh) ∧ (∀ b,v0.ownBlock = some b → w.heap.size ≤ b) ∧ p0.play (evs.take k) = (q,Qh)
def Zkh (own : Nat → Nat) (w : World) (x : Nat) (l : Yb) (r : Pol × List Int) (e : Ending) (w' : World) : Prop :=
 ∃ v own',e = .returned v ∧ Ext w own own' ∧ Zv own' w' x l r.1 ∧ Zb (Kb own) w w' ∧ Row own' 8 w' 3 1 v r.2.length (Y1 r.2) ∧ (∀ b,v.ownBlock = some b → w.heap.size ≤ b)
theorem Zvp (h : Zv own w x l p) {evs : List Ev} (ok : Zjf p evs) {eb cap : Nat} (hlen : evs.length ≤ 1000000) (hcell : ∀ j u,(Qu evs)[j]? = some u → w.cell? ⟨eb,j,none⟩ = some u) (heb : own eb < 20 ∨ 40 ≤ own eb) :
  Calls Ydz 10 #[Pt x,.slice (some ⟨eb,0,none⟩) evs.length cap] w (Zkh own w x l (p.play evs)) := by
 have H0 : Hid (Zzs own w x l p evs 0 (.slice none 0 0) w) := Ydy ⟨_,own,p,[],rfl,⟨Yd3 _ _,h,Yd1 _ _⟩,Row.nil _ _ _ _ _,fun b hb => by simp [Value.ownBlock] at hb,rfl⟩
 have HOK := Ydy ok
 have HC := Ydy hcell
 clear h ok hcell
 generalize hn : evs.length = n at *
 have HN := Ydy hn
 clear hn
 go_enter Tryz.func10,Tryz.ntmps10
 go_wp2
 go_loopw [5,12] (fun v i wr => ∃ k : Nat,k ≤ n ∧ i = .int .i64 (k : Int) ∧ Zzs own w x l p evs k v wr) (fun _ i _ => n - (intOf i).toNat)
 case atStart => exact ⟨0,Yec _,rfl,H0.out⟩
 case round =>
  obtain ⟨k,hk,rfl,v0,own',q,Qh,rfl,⟨q1,q2,q3⟩,q4,q5,q6⟩ := hrel
  by_cases hlt : k < n
  ·have hkb : decide ((k : Int) < (n : Int)) = true := by simp; omega
   obtain ⟨e,he⟩ : ∃ e,evs[k]? = some e := ⟨_,List.getElem?_eq_getElem (by have := HN.out; omega)⟩
   obtain ⟨g0,g1,g2,g3⟩ := Zm8 evs he
   have hkeep : ∀ j u,(Qu evs)[j]? = some u → wr.cell? ⟨eb,j,none⟩ = some u := fun j u hu => Zd (HC.out j u hu) q3 (fun e => by have := e.1; have := e.2; simp only at *; omega)
   have k0 := hkeep _ _ g0
   have k1 := hkeep _ _ g1
   have k2 := hkeep _ _ g2
   have k3 := hkeep _ _ g3
   obtain ⟨o1,o2,o3,o4,o5⟩ := HOK.out k e he
   rw [q6] at o1 o2 o3 o4 o5
   simp only at o1 o2 o3 o4 o5
   have D := Ydy (Zt1 ((q2.kept ((Yd3 wr own').lab (Yd0 _) 0) ((Yd1 No wr).alloc (.cells #[.int .i64 e.d,.int .i64 e.n,.int .i64 e.k,.int .i64 e.w] 93)) (fun _ _ _ _ h => h))) o1 o3 o4 o2)
   obtain ⟨q',gone,hst⟩ := Zvn (q.step e)
   have D2 : Hid (Calls Ydz 34 #[Pt x,.agg #[.int .i64 e.d,.int .i64 e.n,.int .i64 e.k,.int .i64 e.w]] (wr.alloc (.cells #[.int .i64 e.d,.int .i64 e.n,.int .i64 e.k,.int .i64 e.w] 93)) (DoQ (lab own' wr.heap.size 0) (wr.alloc (.cells #[.int .i64 e.d,.int .i64 e.n,.int .i64 e.k,.int .i64 e.w] 93)) x l (q',gone))) := Ydy (by rw [← hst]; exact D.out)
   have hps : p.play (evs.take (k + 1)) = (q',Qh ++ gone) := by
    have ht : evs.take (k + 1) = evs.take k ++ [e] := by
     rw [List.take_add_one,he]; rfl
    rw [ht,Vk,q6]
    simp only [hst]
   rw [hst] at o5
   simp only [Yel] at o5
   have HPS := Ydy hps
   have HQ1 := Ydy (⟨q1,q3⟩ : Ext w own own' ∧ Zb (Kb own) w wr)
   have HROW := Ydy (q4.kept ((Yd3 wr own').lab (Yd0 _) 0) ((Yd1 No wr).alloc (.cells #[.int .i64 e.d,.int .i64 e.n,.int .i64 e.k,.int .i64 e.w] 93)) (fun _ _ _ h => h))
   have HFR := Ydy q5
   have HO5 := Ydy o5
   clear q1 q2 q3 q4 q5 q6 o1 o2 o3 o4 D hst hps g0 g1 g2 g3 hkeep he o5
   go_wp2_with fail
   refine (D2.out).mono ?_
   rintro e2 w2 ⟨v,nn,own2,rfl,a1,a2,a3,a4,a5⟩
   have HR1 := Ydy (HROW.out.kept a1 a3 (fun b _ hb e => by have := e.1; omega))
   have HR2 := Ydy a4.src
   have A := Ydy (⟨a1,a2,a3,a5⟩ : Ext (wr.alloc (.cells #[.int .i64 e.d,.int .i64 e.n,.int .i64 e.k,.int .i64 e.w] 93)) (lab own' wr.heap.size 0) own2 ∧ Zv own2 w2 x l q' ∧ Zb (Kb (lab own' wr.heap.size 0)) (wr.alloc (.cells #[.int .i64 e.d,.int .i64 e.n,.int .i64 e.k,.int .i64 e.w] 93)) w2 ∧ ∀ b,v.ownBlock = some b → (wr.alloc (.cells #[.int .i64 e.d,.int .i64 e.n,.int .i64 e.k,.int .i64 e.w] 93)).heap.size ≤ b)
   clear a1 a2 a3 a4 a5 k0 k1 k2 k3
   go_wp2_with (at_builtin; refine Vb (by rfl) _ _ 25 (by rfl) Zd1 (by rfl) HR1.out (by rfl) HR2.out (Zuu _) HO5.out ?_; intro v3 w3 own3 r3 x3 o3 f3; have R3 := Ydy r3; have X3 := Ydy x3; have O3 := Ydy o3; have F3 := Ydy f3; clear r3 x3 o3 f3)
   go_roundw
   case rel =>
    obtain ⟨b1,b3⟩ := HQ1.out
    obtain ⟨a1,a2,a3,a5⟩ := A.out
    have hz := a3.size
    have hz2 : wr.heap.size + 1 ≤ w2.heap.size := by simpa using hz
    have hE : Ext wr own' own2 := ((Yd3 wr own').lab (Yd0 _) 0).trans (by simp) a1
    have hE2 : Ext w own own2 := b1.trans b3.size hE
    have hO : Zb (Kb own') wr w2 := ((Yd1 (Kb own') wr).alloc _).then a3 (fun i hi hT => by have h : 20 ≤ lab own' wr.heap.size 0 i ∧ lab own' wr.heap.size 0 i < 40 := hT; rw [Zq (by omega)] at h; exact h)
    have hO2 : Zb (Kb own) w w2 := b3.then hO (fun i hi hT => by have h : 20 ≤ own' i ∧ own' i < 40 := hT; rw [b1 i hi] at h; exact h)
    have h8 : ∀ b,v0.ownBlock = some b → own2 b = 8 := fun b hb => HR1.out.2 b hb
    have hO3 : Zb (fun b => own2 b = 8 ∧ w.heap.size ≤ b) w2 w3 := O3.out.mono (fun b _ e => ⟨h8 b e,HFR.out b e⟩)
    refine ⟨k + 1,by omega,by go_num,v3,own3,q',Qh ++ gone,rfl,⟨hE2.trans hO2.size X3.out,a2.kept X3.out hO3 (fun b _ h1 h2 e => by have := e.1; omega),hO2.then hO3 (fun i hi e => by have := e.2; omega)⟩,?_,?_,HPS.out⟩
    ·have r := R3.out
     have e : Y1 (Qh ++ gone) = Y1 Qh ++ Y1 gone := by simp [Y1]
     rw [Yel,e]
     exact r
    ·intro b hb
     rcases F3.out b hb with e | e
     ·exact HFR.out b e
     ·have := b3.size; omega
   case measure => simp [intOf]; omega
  ·have hk2 : k = n := by omega
   subst hk2
   have hpl : p.play evs = (q,Qh) := by rw [← q6,← HN.out,List.take_length]
   have HX : Hid (Zkh own w x l (p.play evs) (.returned v0) wr) := Ydy (by rw [hpl]; exact ⟨v0,own',rfl,q1,q2,q3,q4,q5⟩)
   clear q1 q2 q3 q4 q5 q6 hpl
   go_wp2
   go_ret
   exact HX.out
theorem Zvq (h : Zv own w x l p) : Calls Ydz 10 #[Pt x,.slice none 0 0] w (Zkh own w x l (p,[])) := by
 have HX : Hid (Zkh own w x l (p,[]) (.returned (.slice none 0 0)) w) := Ydy ⟨_,own,rfl,Yd3 _ _,h,Yd1 _ _,Row.nil _ _ _ _ _,fun b hb => by simp [Value.ownBlock] at hb⟩
 clear h
 go_enter Tryz.func10,Tryz.ntmps10
 go_wp2
 refine wp_loop_rounds 1 ?_
 rw [rounds_succ]
 go_wp2
 go_ret
 exact HX.out
def qf (f : Nat) (q : List Ev) : Int → Option Value := fun j => if (f : Int) ≤ j then (q[(j - (f : Int)).toNat]?).map evA else none
def hvV (x : Int) : Int := if (2147483648 : Int) < (if (0 : Int) < x then x else 0) then 2147483648 else (if (0 : Int) < x then x else 0)
theorem Znk (x : Int) : 0 ≤ hvV x ∧ hvV x ≤ 2147483648 := by
 unfold hvV
 repeat' split
 all_goals omega
def Jq (q : List Ev) : Int := (q.map fun e => hvV e.w).sum
theorem Zq6 (q : List Ev) (e : Ev) : Jq (q ++ [e]) = Jq q + hvV e.w := by simp [Jq]
theorem Zic (q : List Ev) (e : Ev) : Jq (e :: q) = hvV e.w + Jq q := by simp [Jq]
theorem Zpa (q : List Ev) : 0 ≤ Jq q ∧ Jq q ≤ 2147483648 * (q.length : Int) := by
 induction q with
 | nil => simp [Jq]
 | cons e q ih =>
  have := Znk e.w
  rw [Zic,List.length_cons]
  omega
structure Kx (own : Nat → Nat) (w : World) (x m n : Nat) (b : Wr) : Prop where
 ox : own x = 60
 om : own m = 61
 room : b.size ≤ 4096
 fit : b.q.length + b.res ≤ b.size
 few : b.q.length ≤ n ∧ n ≤ 100000
 block : w.heap[x]? = some (.cells #[.int .i64 (b.size : Int),.map (some m),.int .i64 ((n - b.q.length : Nat) : Int),.int .i64 (b.res : Int),.int .i64 (Jq b.q)] 132 (0,0))
 map : Zs w m (qf (n - b.q.length) b.q) b.q.length
def WrL (own : Nat → Nat) : Nat → Prop := fun b => own b = 60 ∨ own b = 61
theorem Kx.ne (h : Kx own w x m n b) : m ≠ x := fun e => by have := h.ox; have := h.om; rw [e] at this; omega
theorem Kx.kept (h : Kx own w x m n b) (he : Ext w own own') (ho : Zb S w w') (hS : ∀ j,j < w.heap.size → own j = 60 ∨ own j = 61 → ¬ S j) : Kx own' w' x m n b :=
 ⟨(he _ (Ze h.block)).trans h.ox,(he _ h.map.lt).trans h.om,h.room,h.fit,h.few,ho.kept h.block (hS _ (Ze h.block) (.inl h.ox)),h.map.kept ho (hS _ h.map.lt (.inr h.om))⟩
theorem Zmg (h : Kx own w x m n b) : Calls Ydz 130 #[Pt x] w fun e w' => e = .returned (.int .i64 (b.q.length : Int)) ∧ w' = w := by
 have c1 : w.cell? ⟨x,1,none⟩ = some (.map (some m)) := Za h.block rfl
 have L := h.map.len Yd9
 clear h
 go_enter Tryz.func130,Tryz.ntmps130
 go_wp2
 go_ret
 exact ⟨rfl,rfl⟩
theorem Zja (h : Kx own w x m n b) (h1 : 0 < b.res) : Calls Ydz 184 #[Pt x] w fun e w' => e = .returned (.int .i64 0) ∧ Kx own w' x m n { b with res := b.res - 1 } ∧ Zb (WrL own) w w' := by
 have c3 : w.cell? ⟨x,3,none⟩ = some (.int .i64 (b.res : Int)) := Za h.block rfl
 have f3 := Zc h.block 3
 have HX := Ydy h.ox
 have hr := h.fit
 have hr2 := h.room
 have HF : Hid (∀ W,Sm w W → Kx own (W.setCell ⟨x,3,none⟩ (.int .i64 ((b.res : Int) - 1))) x m n { b with res := b.res - 1 }) := Ydy (fun W hs => ⟨h.ox,h.om,h.room,by show b.q.length + (b.res - 1) ≤ b.size; omega,h.few,(Zj (hs.block h.block) 3 _).trans (by
  show some (Obj.cells #[.int .i64 (b.size : Int),.map (some m),.int .i64 ((n - b.q.length : Nat) : Int),.int .i64 ((b.res : Int) - 1),.int .i64 (Jq b.q)] 132) = some (Obj.cells #[.int .i64 (b.size : Int),.map (some m),.int .i64 ((n - b.q.length : Nat) : Int),.int .i64 ((b.res - 1 : Nat) : Int),.int .i64 (Jq b.q)] 132)
  rw [show ((b.res - 1 : Nat) : Int) = (b.res : Int) - 1 from by omega]),(hs.map h.map).setCell h.ne _⟩)
 have hb : ((b.res : Int) == 0) = false := beq_eq_false_iff_ne.2 (by omega)
 have IW := Yee ((b.res : Int) - 1) (by omega)
 clear h
 go_enter Tryz.func184,Tryz.ntmps184
 go_wp2
 go_ret
 exact ⟨rfl,HF.out _ (Sm.refl _),(Yd1 _ w).setCell (p:=⟨x,3,none⟩) (.inl (.inl HX.out)) _⟩
theorem Zsp (h : Kx own w x m n b) (h1 : b.q.length + b.res < b.size) : Calls Ydz 85 #[Pt x] w fun e w' => e = .returned .nilIface ∧ Kx own w' x m n { b with res := b.res + 1 } ∧ Zb (WrL own) w w' := by
 have c0 : w.cell? ⟨x,0,none⟩ = some (.int .i64 (b.size : Int)) := Za h.block rfl
 have c3 : w.cell? ⟨x,3,none⟩ = some (.int .i64 (b.res : Int)) := Za h.block rfl
 have f3 := Zc h.block 3
 have HX := Ydy h.ox
 have hr2 := h.room
 have HL : Hid (∀ W,Sm w W → Calls Ydz 130 #[Pt x] W fun e w' => e = .returned (.int .i64 (b.q.length : Int)) ∧ w' = W) := Ydy (fun W hs => Zmg (h.kept (S:=No) (own':=own) (fun _ _ => rfl) hs.only (fun _ _ _ h => h)))
 have HF : Hid (∀ W,Sm w W → Kx own (W.setCell ⟨x,3,none⟩ (.int .i64 ((b.res : Int) + 1))) x m n { b with res := b.res + 1 }) := Ydy (fun W hs => ⟨h.ox,h.om,h.room,by show b.q.length + (b.res + 1) ≤ b.size; omega,h.few,(Zj (hs.block h.block) 3 _).trans rfl,(hs.map h.map).setCell h.ne _⟩)
 have hb : ((b.q.length : Int) + (b.res : Int) == (b.size : Int)) = false := beq_eq_false_iff_ne.2 (by omega)
 have IW := Yee ((b.res : Int) + 1) (by omega)
 have BA : Hid (∀ W,(binOp .add 3 (.int .i64 (b.q.length : Int)) (.int .i64 (b.res : Int))).run Ydz W = .ok (.int .i64 ((b.q.length : Int) + (b.res : Int))) W) := Ydy (Zo1 (b.q.length : Int) (b.res : Int) (by omega) (by omega))
 have IW2 := Yee ((b.q.length : Int) + (b.res : Int)) (by omega)
 clear h
 go_enter Tryz.func85,Tryz.ntmps85
 go_wp2
 go_quiet ((go_at_call 130; exact Calls.quiet_of_same (HL.out _ (Sm.drewN _ _))))
 go_wp2
 go_ret
 exact ⟨rfl,HF.out _ (Sm.drewN _ _),((Yd1 _ w).drewN _).setCell (p:=⟨x,3,none⟩) (.inl (.inl HX.out)) _⟩
def evB (e : Ev) : Obj := .cells #[.int .i64 e.d,.int .i64 e.n,.int .i64 e.k,.int .i64 e.w] 93
theorem Ycj {v : Int} (h : v ≤ 0) : hvV v = 0 := by
 unfold hvV
 rw [if_neg (show ¬ (0 : Int) < v by omega),if_neg (by omega)]
theorem Yck {v : Int} (h : 0 < v) (h2 : v ≤ 2147483648) : hvV v = v := by
 unfold hvV
 rw [if_pos h,if_neg (by omega)]
theorem Ycl {v : Int} (h : 2147483648 < v) : hvV v = 2147483648 := by
 unfold hvV
 rw [if_pos (show (0 : Int) < v by omega),if_pos h]
theorem Zwx (e : Ev) (w : World) : Calls Ydz 210 #[evA e] w fun r w' => r = .returned (.int .i64 (hvV e.w)) ∧ w' = w.alloc (evB e) := by
 have H1 := Ydy (@Ycj e.w)
 have H2 := Ydy (@Yck e.w)
 have H3 := Ydy (@Ycl e.w)
 generalize hvV e.w = res at *
 unfold evA evB
 generalize e.w = v at *
 rcases Int.lt_trichotomy v 0 with h | h | h
 ·have := H1.out (by omega)
  subst this
  clear H1 H2 H3
  go_enter Yei,Yeg
  go_wp2
  go_ret
  exact ⟨rfl,rfl⟩
 ·subst h
  have := H1.out (by omega)
  subst this
  clear H1 H2 H3
  go_enter Yei,Yeg
  go_wp2
  go_ret
  exact ⟨rfl,rfl⟩
 ·rcases Int.lt_trichotomy v 2147483648 with g | g | g
  ·have := H2.out h (by omega)
   subst this
   clear H1 H2 H3
   go_enter Yei,Yeg
   go_wp2
   go_ret
   exact ⟨rfl,rfl⟩
  ·subst g
   have := H2.out h (by omega)
   subst this
   clear H1 H2 H3
   go_enter Yei,Yeg
   go_wp2
   go_ret
   exact ⟨rfl,rfl⟩
  ·have := H3.out (by omega)
   subst this
   clear H1 H2 H3
   go_enter Yei,Yeg
   go_wp2
   go_ret
   exact ⟨rfl,rfl⟩
def Zta (own : Nat → Nat) (w : World) (size : Nat) (e : Ending) (w' : World) : Prop := ∃ x m own',e = .returned (Pt x) ∧ Ext w own own' ∧ Kx own' w' x m 0 ⟨size,0,[]⟩ ∧ Zb No w w'
theorem Yde (own : Nat → Nat) (size : Int) (w : World) : Calls Ydz 22 #[.int .i64 size] w (Zta own w (Yt size 1 12).toNat) := by
 obtain ⟨i,hi,he⟩ := Zdz size 12
 have C := Zap size 1 4096 12 (by omega) (by decide) (by omega) (by decide +kernel) (by decide +kernel) w
 rw [show upV size 12 1 = Yt size 1 12 from rfl,he] at C
 rw [he,Int.toNat_natCast]
 have C := Ydy C
 have hp2 : 2 ^ i ≤ 4096 := Nat.le_trans (Nat.pow_le_pow_right (by omega) hi) (by decide)
 have HQ : Hid (∀ e w',(∃ x m own',e = .returned (Pt x) ∧ Ext w own own' ∧ Kx own' w' x m 0 ⟨2 ^ i,0,[]⟩ ∧ Zb No w w') → Zta own w (2 ^ i) e w') := Ydy (fun _ _ h => h)
 have hmm := @run_makeMap Ydz
 clear he
 generalize 2 ^ i = N at *
 go_enter Tryz.func22,Tryz.ntmps22
 go_wp2_with fail
 refine (C.out).mono ?_
 rintro e w' ⟨rfl,rfl⟩
 go_wp2
 go_ret
 refine HQ.out _ _ ⟨w.heap.size + 1,w.heap.size,lab (lab own w.heap.size 61) (w.heap.size + 1) 60,rfl,((Yd3 w own).lab (Yd0 _) _).lab (by omega) _,⟨Zn _ _ _,?_,hp2,Yec _,⟨Yd0 _,Yec _⟩,Kj w _ _,?_⟩,?_⟩
 ·rw [Zq (by omega),Zn]
 ·exact ((Zs.made w).alloc _).eq (fun k _ => by unfold qf; split <;> simp)
 ·(repeat (first | with_reducible exact Yd1 _ _ | with_reducible refine Zb.drew ?_ | with_reducible refine Zb.drewN ?_ _ | with_reducible refine Zb.alloc ?_ _ | ((with_reducible refine Yen ?_ ?_ _); rotate_left; first | exact .inl rfl | exact .inr (Yd0 _) | exact .inl (.inl rfl) | exact .inl (.inr rfl) | exact .inl (.inr (.inl rfl)) | exact .inl (.inr (.inr rfl)) | (focus (right; first | (simp; done) | (simp; omega))))))
def Zou (own : Nat → Nat) (w : World) (x m n : Nat) (b : Wr) (r : Ending) (w' : World) : Prop := ∃ own',r = .returned (.int .i64 0) ∧ Ext w own own' ∧ Kx own' w' x m n b ∧ Zb (WrL own) w w'
theorem Zyt (f : Nat) (q : List Ev) (e : Ev) (k : Int) : qf f (q ++ [e]) k = upd (qf f q) ((f + q.length : Nat) : Int) (some (evA e)) k := by
 unfold upd qf
 by_cases hk : k = ((f + q.length : Nat) : Int)
 ·subst hk
  rw [if_pos rfl,if_pos (by omega),show (((f + q.length : Nat) : Int) - (f : Int)).toNat = q.length from by omega]
  simp
 ·rw [if_neg hk]
  by_cases h : (f : Int) ≤ k
  ·rw [if_pos h,if_pos h]
   rcases Nat.lt_or_ge (k - (f : Int)).toNat q.length with g | g
   ·rw [List.getElem?_append_left g]
   ·rw [Yes (by rw [Yel,List.length_singleton]; omega),Yes g]
  ·rw [if_neg h,if_neg h]
theorem Zvu (f : Nat) (q : List Ev) : qf f q ((f + q.length : Nat) : Int) = none := by
 unfold qf
 rw [if_pos (by omega),show (((f + q.length : Nat) : Int) - (f : Int)).toNat = q.length from by omega]
 simp
theorem Zhm (h : Kx own w x m n b) (h1 : 0 < b.res) (hn : n < 100000) (e : Ev) :
  Calls Ydz 182 #[Pt x,evA e] w (Zou own w x m (n + 1) { b with res := b.res - 1,q := b.q ++ [e] }) := by
 have hB : w.heap.size < (w.alloc (evB e)).heap.size := by simp
 have hC := Zja (h.kept ((Yd3 w own).lab (Yd0 _) 0) ((Yd1 No w).alloc (evB e)) (fun _ _ _ h => h)) h1
 have HC := Ydy hC
 have HW := Ydy h
 have hfew := h.few
 have hroom := h.room
 have hfit := h.fit
 clear h hC
 unfold evA
 go_enter Tryz.func182,Tryz.ntmps182
 go_wp2_with fail
 refine HC.out.mono ?_
 rintro r w1 ⟨rfl,q1,q2⟩
 have hE0 : w1.heap[w.heap.size]? = some (evB e) := q2.kept (Zh w _) (fun hh => by rcases hh with hh | hh <;> rw [Zn] at hh <;> omega)
 have c1 : w1.cell? ⟨x,1,none⟩ = some (.map (some m)) := Za q1.block rfl
 have c2 : w1.cell? ⟨x,2,none⟩ = some (.int .i64 ((n - b.q.length : Nat) : Int)) := Za q1.block rfl
 have e0 : w1.cell? ⟨w.heap.size,0,none⟩ = some (.int .i64 e.d) := Za hE0 rfl
 have e1 : w1.cell? ⟨w.heap.size,1,none⟩ = some (.int .i64 e.n) := Za hE0 rfl
 have e2 : w1.cell? ⟨w.heap.size,2,none⟩ = some (.int .i64 e.k) := Za hE0 rfl
 have e3 : w1.cell? ⟨w.heap.size,3,none⟩ = some (.int .i64 e.w) := Za hE0 rfl
 have HL : Hid (∀ W,Sm w1 W → Calls Ydz 130 #[Pt x] W fun e w' => e = .returned (.int .i64 (b.q.length : Int)) ∧ w' = W) := Ydy (fun W hs => Zmg (b:={ b with res := b.res - 1 }) (q1.kept (S:=No) (own':=lab own w.heap.size 0) (fun _ _ => rfl) hs.only (fun _ _ _ h => h)))
 have BA : Hid (∀ W,(binOp .add 3 (.int .i64 ((n - b.q.length : Nat) : Int)) (.int .i64 (b.q.length : Int))).run Ydz W = .ok (.int .i64 (n : Int)) W) := Ydy (fun W => by
  have := Zo1 ((n - b.q.length : Nat) : Int) (b.q.length : Int) (by omega) (by omega) W
  rw [this]
  congr 2
  omega)
 have HM : Hid (∀ W,Sm w1 W → Zs W m (qf (n - b.q.length) b.q) b.q.length) := Ydy (fun W hs => hs.map q1.map)
 have Q1 := Ydy q1
 have Q2 := Ydy q2
 have HE := Ydy hE0
 clear q1 q2 hE0
 go_wp2
 refine Z4 12 (by kernel_rfl) (by kernel_rfl) ?_
 intro W3 hc3 hf3 hs3 HW3
 simp only [Yd6,Yeb,Yd5,Yea]
 iterate 9 still_step
 have HL3 := Ydy (HL.out W3 (by rw [← HW3.out]; exact ⟨rfl,rfl,rfl,rfl⟩))
 still_call HL3.out
 refine Xg rfl _ _ rfl rfl rfl rfl (BA.out _) ?_
 simp only [Act.put]
 iterate 1 still_step
 refine wpStill_nil ?_
 go_wp2_with (refine Y0 (by rfl) (t:=130) (by rfl) (e:=93) Yd9 (b:=m) (by rfl) (HM.out _ (by rw [← HW3.out]; exact ⟨rfl,rfl,rfl,rfl⟩)) (by omega) (k:=n) (val:=evA e) (by rfl) (by rfl) ⟨by omega,by omega⟩ ?_; intro w9 hm htt; have HM9 := Ydy hm; have HTT := Ydy htt; clear hm htt)
 have hS3 : Sm w1 W3 := by rw [← HW3.out]; exact ⟨rfl,rfl,rfl,rfl⟩
 have hO9 : Zb (fun b => b = m) w1 w9 := (hS3.only (S:=fun b => b = m)).turned HTT.out (.inl rfl)
 have hmx := HW.out.ne
 have hml := HW.out.map.lt
 have hxl := Ze HW.out.block
 have X9 : w9.heap[x]? = some (.cells #[.int .i64 (b.size : Int),.map (some m),.int .i64 ((n - b.q.length : Nat) : Int),.int .i64 ((b.res - 1 : Nat) : Int),.int .i64 (Jq b.q)] 132 (0,0)) := hO9.kept Q1.out.block (fun e => hmx e.symm)
 have E9 : w9.heap[w.heap.size]? = some (evB e) := hO9.kept HE.out (fun e => by omega)
 have M9 : Zs w9 m (qf (n - b.q.length) (b.q ++ [e])) (b.q.length + 1) := by
  have h := HM9.out
  have hq : qf (n - b.q.length) b.q (n : Int) = none := by
   have := Zvu (n - b.q.length) b.q
   rwa [show n - b.q.length + b.q.length = n from by omega] at this
  rw [hq] at h
  refine h.eq (fun k _ => ?_)
  have := Zyt (n - b.q.length) b.q e k
  rwa [show n - b.q.length + b.q.length = n from by omega] at this
 have d4 : w9.cell? ⟨x,4,none⟩ = some (.int .i64 (Jq b.q)) := Za X9 rfl
 have d5 : ∀ o,(w9.alloc o).cell? ⟨x,4,none⟩ = some (.int .i64 (Jq b.q)) := fun o => Za (Zm X9) rfl
 have d6 : ∀ o,(w9.drew.alloc o).cell? ⟨x,4,none⟩ = some (.int .i64 (Jq b.q)) := fun o => Za (Zm (w:=w9.drew) X9) rfl
 have g4 := Zc X9 4
 have g5 : ∀ o,(w9.alloc o).frozen? ⟨x,4,none⟩ = false := fun o => Zc (Zm X9) 4
 have g6 : ∀ o,(w9.drew.alloc o).frozen? ⟨x,4,none⟩ = false := fun o => Zc (Zm (w:=w9.drew) X9) 4
 have i0 : w9.cell? ⟨w.heap.size,0,none⟩ = some (.int .i64 e.d) := Za E9 rfl
 have i1 : w9.cell? ⟨w.heap.size,1,none⟩ = some (.int .i64 e.n) := Za E9 rfl
 have i2 : w9.cell? ⟨w.heap.size,2,none⟩ = some (.int .i64 e.k) := Za E9 rfl
 have i3 : w9.cell? ⟨w.heap.size,3,none⟩ = some (.int .i64 e.w) := Za E9 rfl
 have WH : Hid (∀ W,Calls Ydz 210 #[.agg #[.int .i64 e.d,.int .i64 e.n,.int .i64 e.k,.int .i64 e.w]] W fun r w' => r = .returned (.int .i64 (hvV e.w)) ∧ w' = W.alloc (evB e)) := Ydy (fun W => Zwx e W)
 have hs := Zpa b.q
 have hv := Znk e.w
 have IW := Yee (Jq b.q + hvV e.w) (by omega)
 have HF : Hid (∀ W,Sm (w9.alloc (evB e)) W → Zou own w x m (n + 1) { b with res := b.res - 1,q := b.q ++ [e] } (.returned (.int .i64 0)) (W.setCell ⟨x,4,none⟩ (.int .i64 (Jq b.q + hvV e.w)))) := Ydy (fun W hs => by
  have hl : (b.q ++ [e]).length = b.q.length + 1 := by simp
  have hxm : x ≠ m := fun e => hmx e.symm
  refine ⟨lab own w.heap.size 0,rfl,(Yd3 w own).lab (Yd0 _) 0,⟨Q1.out.ox,Q1.out.om,HW.out.room,by show (b.q ++ [e]).length + (b.res - 1) ≤ b.size; omega,by show (b.q ++ [e]).length ≤ n + 1 ∧ n + 1 ≤ 100000; omega,?_,?_⟩,?_⟩
  ·refine (Zj (hs.block (Zm X9)) 4 _).trans ?_
   show some (Obj.cells #[.int .i64 (b.size : Int),.map (some m),.int .i64 ((n - b.q.length : Nat) : Int),.int .i64 ((b.res - 1 : Nat) : Int),.int .i64 (Jq b.q + hvV e.w)] 132) = some (Obj.cells #[.int .i64 (b.size : Int),.map (some m),.int .i64 ((n + 1 - (b.q ++ [e]).length : Nat) : Int),.int .i64 ((b.res - 1 : Nat) : Int),.int .i64 (Jq (b.q ++ [e]))] 132)
   rw [Zq6,hl,show n + 1 - (b.q.length + 1) = n - b.q.length from by omega]
  ·show Zs _ m (qf (n + 1 - (b.q ++ [e]).length) (b.q ++ [e])) (b.q ++ [e]).length
   rw [hl,show n + 1 - (b.q.length + 1) = n - b.q.length from by omega]
   exact (hs.map (M9.alloc _)).setCell hmx _
  ·have o1 : Zb (WrL own) w w1 := ((Yd1 (WrL own) w).alloc (evB e)).then Q2.out (fun i hi hh => by
    have hh : lab own w.heap.size 0 i = 60 ∨ lab own w.heap.size 0 i = 61 := hh
    rw [Zq (by omega)] at hh
    exact hh)
   have o2 : Zb (WrL own) w1 w9 := hO9.mono (fun j _ hj => by subst hj; exact .inr HW.out.om)
   exact (((o1.trans o2).alloc _).trans hs.only).setCell (p:=⟨x,4,none⟩) (.inl (.inl HW.out.ox)) _)
 clear hS3 hO9 X9 E9 M9 c1 c2 e0 e1 e2 e3 hs hv HM9 HTT HM BA HL
 generalize Jq b.q = hs at *
 generalize hvV e.w = hv at *
 go_region_with (go_at_call 210; refine (WH.out _).mono ?_; rintro r w' ⟨rfl,rfl⟩)
 all_goals
  go_wp2
  go_ret
  have k := HF.out ((w9.alloc (evB e)).drew) ⟨rfl,rfl,rfl,rfl⟩
  rw [Yed] at k
  exact k
end
section
attribute [local go_sem] Yed
theorem Zw3 (w : World) : (zeroValue 93).run Ydz w = .ok (.agg #[.int .i64 0,.int .i64 0,.int .i64 0,.int .i64 0]) w := by kernel_rfl
def Vs : Ev := ⟨0,0,0,0⟩
theorem Zig {F : Int} (h : Zs w m f n) (hF : I64 F) (hh : f F = none) :
  (Instr.lookup 130 (.map (some m)) (.int .i64 F) true).run Ydz w = .ok (.tuple #[.agg #[.int .i64 0,.int .i64 0,.int .i64 0,.int .i64 0],.bool false]) w := by
 have := h.look (t:=130) (e:=93) Yd9 (Zw3 w) hF
 rw [hh] at this
 exact this
theorem Zih {F : Int} (h : Zs w m f n) (hF : I64 F) (hh : f F = some (evA e)) :
  (Instr.lookup 130 (.map (some m)) (.int .i64 F) true).run Ydz w = .ok (.tuple #[.agg #[.int .i64 e.d,.int .i64 e.n,.int .i64 e.k,.int .i64 e.w],.bool true]) w := by
 have := h.look (t:=130) (e:=93) Yd9 (Zw3 w) hF
 rw [hh] at this
 exact this
theorem Zse (b m n : Nat) (f : Int → Option Value) (F : Int) (w : World) (hbl : b < w.heap.size) (c1 : w.cell? ⟨b,1,none⟩ = some (.map (some m))) (c2 : w.cell? ⟨b,2,none⟩ = some (.int .i64 F)) (hown : Zs w m f n)
  (hF0 : 0 ≤ F) (hF1 : F ≤ 1000000) (hh : f F = none) :
  Calls Ydz 186 #[.pointer (some ⟨b,0,none⟩)] w fun r w' => r = .returned (.tuple #[evA Vs,.bool false]) ∧ Below w.heap.size w w' := by
 have HO := Ydy hown
 have H1 := Ydy c1
 have H2 := Ydy c2
 have HH := Ydy hh
 clear hown c1 c2 hh
 go_enter Tryz.func186,Tryz.ntmps186
 go_wp2
 generalize hw2 : (w.alloc (.cells #[.int .i64 0,.int .i64 0,.int .i64 0,.int .i64 0] 93)) = w2
 have HW2 := Ydy hw2
 clear hw2
 have k1 : w2.cell? ⟨b,1,none⟩ = some (.map (some m)) := by rw [← HW2.out,Yd4 _ _ _ hbl]; exact H1.out
 have k2 : w2.cell? ⟨b,2,none⟩ = some (.int .i64 F) := by rw [← HW2.out,Yd4 _ _ _ hbl]; exact H2.out
 have o2 : Zs w2 m f n := by rw [← HW2.out]; exact HO.out.alloc _
 have hb2 : b < w2.heap.size := by rw [← HW2.out]; simp; omega
 have hb3 : w2.heap.size ≠ b := Yeo hb2
 have hb4 : b ≠ w2.heap.size := Yep hb2
 have hl := Zig o2.drew ⟨by omega,by omega⟩ HH.out
 have hl2 := Zig (Zs.drew (o2.alloc (.cells #[.int .i64 0,.int .i64 0,.int .i64 0,.int .i64 0] 93))) ⟨by omega,by omega⟩ HH.out
 have O2 := Ydy o2
 clear o2
 have hr1 : w.heap.size < w2.heap.size := by rw [← HW2.out]; simp
 have hr2 : w.heap.size ≠ w2.heap.size := Yep hr1
 have hr3 : w2.heap.size ≠ w.heap.size := Yeo hr1
 have r0 : w2.cell? ⟨w.heap.size,0,none⟩ = some (.int .i64 0) := by rw [← HW2.out]; simp
 have r1 : w2.cell? ⟨w.heap.size,1,none⟩ = some (.int .i64 0) := by rw [← HW2.out]; simp
 have r2 : w2.cell? ⟨w.heap.size,2,none⟩ = some (.int .i64 0) := by rw [← HW2.out]; simp
 have r3 : w2.cell? ⟨w.heap.size,3,none⟩ = some (.int .i64 0) := by rw [← HW2.out]; simp
 have q0 : w2.frozen? ⟨w.heap.size,0,none⟩ = false := by rw [← HW2.out]; simp
 have q1 : w2.frozen? ⟨w.heap.size,1,none⟩ = false := by rw [← HW2.out]; simp
 have q2 : w2.frozen? ⟨w.heap.size,2,none⟩ = false := by rw [← HW2.out]; simp
 have q3 : w2.frozen? ⟨w.heap.size,3,none⟩ = false := by rw [← HW2.out]; simp
 go_region_with (fail)
 all_goals (try go_wp2)
 all_goals
  refine bodyPost_ret (v:=.tuple #[evA Vs,.bool false]) (by simp [results,Tryz.results186,go_sem,evA,Vs,r0,r1,r2,r3,hr1]) rfl ⟨rfl,?_⟩
  exact ((((((Below.refl _ _).alloc (Yd0 _) _).trans (by rw [HW2.out]; exact Below.refl _ _)).setCell (Yd0 _) _).setCell (Yd0 _) _).setCell (Yd0 _) _).setCell (Yd0 _) _ |>.alloc (by simp; omega) _ |>.drew
theorem Zsf (b m n : Nat) (f : Int → Option Value) (F W : Int) (e : Ev) (w : World) (hbm : b ≠ m) (hbl : b < w.heap.size) (c1 : w.cell? ⟨b,1,none⟩ = some (.map (some m))) (c2 : w.cell? ⟨b,2,none⟩ = some (.int .i64 F)) (c4 : w.cell? ⟨b,4,none⟩ = some (.int .i64 W)) (hf : ∀ j,w.frozen? ⟨b,j,none⟩ = false) (hown : Zs w m f n)
  (hF0 : 0 ≤ F) (hF1 : F ≤ 1000000) (hW0 : 0 ≤ W) (hW1 : W ≤ 1000000000000000) (hh : f F = some (evA e)) :
  Calls Ydz 186 #[.pointer (some ⟨b,0,none⟩)] w fun r w' => r = .returned (.tuple #[evA e,.bool true]) ∧ ∃ w4,Zs w4 m (upd f F none) (n - 1) ∧ ((w.alloc (evB Vs)).alloc (evB e)).grownBy w4 (some m) ∧
   Zb (fun k => w.heap.size ≤ k) ((w4.setCell ⟨b,2,none⟩ (.int .i64 (F + 1))).setCell ⟨b,4,none⟩ (.int .i64 (W - hvV e.w))) w' := by
 have hev := Znk e.w
 have hv2 : IntKind.i64.wrap (W - hvV e.w) = W - hvV e.w := Yee _ (by omega)
 have HO := Ydy hown
 have H1 := Ydy c1
 have H2 := Ydy c2
 have H4 := Ydy c4
 have HF := Ydy hf
 have HM := Ydy hbm
 have HH := Ydy hh
 clear hown c1 c2 c4 hf hbm hh
 have hmlt : m < w.heap.size := HO.out.lt
 go_enter Tryz.func186,Tryz.ntmps186
 go_upto_region 1 with (fail)
 go_cut [4,5] (fun v4 v5 wc => v4 = .pointer (some ⟨w.heap.size + 1,0,none⟩) ∧ v5 = .bool true ∧ Hid (wc = ((w.alloc (evB Vs)).alloc (evB e)).drew))
 case first =>
  generalize hw2 : (w.alloc (.cells #[.int .i64 0,.int .i64 0,.int .i64 0,.int .i64 0] 93)) = w2
  have HW2 := Ydy hw2
  clear hw2
  have k1 : w2.cell? ⟨b,1,none⟩ = some (.map (some m)) := by rw [← HW2.out,Yd4 _ _ _ hbl]; exact H1.out
  have k2 : w2.cell? ⟨b,2,none⟩ = some (.int .i64 F) := by rw [← HW2.out,Yd4 _ _ _ hbl]; exact H2.out
  have o2 : Zs w2 m f n := by rw [← HW2.out]; exact HO.out.alloc _
  have hb2 : b < w2.heap.size := by rw [← HW2.out]; simp; omega
  have hb3 : w2.heap.size ≠ b := Yeo hb2
  have hb4 : b ≠ w2.heap.size := Yep hb2
  have hl := Zih o2.drew ⟨by omega,by omega⟩ HH.out
  have hl2 := Zih (Zs.drew (o2.alloc (.cells #[.int .i64 0,.int .i64 0,.int .i64 0,.int .i64 0] 93))) ⟨by omega,by omega⟩ HH.out
  clear o2
  go_region_with (fail)
  all_goals
   go_wp2
   go_meet
   case rel => exact ⟨by rw [← HW2.out]; simp,rfl,Ydy (by rw [← HW2.out]; rfl)⟩
 case rest =>
  obtain ⟨rfl,rfl,HWC⟩ := hcut
  have h1 : w.heap.size ≠ b := Yeo hbl
  have h2 : w.heap.size + 1 ≠ b := by omega
  have cw : ∀ j v,w.cell? ⟨b,j,none⟩ = some v → wc.cell? ⟨b,j,none⟩ = some v := fun j v h => by
   rw [HWC.out]; show World.cell? ((w.alloc _).alloc _) _ = _
   rw [Yd4 _ _ _ (by simp; omega),Yd4 _ _ _ hbl]; exact h
  have fw : ∀ j,wc.frozen? ⟨b,j,none⟩ = false := fun j => by
   rw [HWC.out]; show World.frozen? ((w.alloc _).alloc _) _ = _
   rw [Yef _ _ _ (by simp; omega),Yef _ _ _ (Yep hbl)]; exact HF.out j
  have k1 := cw 1 _ H1.out
  have k2 := cw 2 _ H2.out
  have k4 := cw 4 _ H4.out
  have f2 := fw 2
  have f4 := fw 4
  clear cw fw
  have e0 : wc.cell? ⟨w.heap.size + 1,0,none⟩ = some (.int .i64 e.d) := by rw [HWC.out]; simp [evB]
  have e1 : wc.cell? ⟨w.heap.size + 1,1,none⟩ = some (.int .i64 e.n) := by rw [HWC.out]; simp [evB]
  have e2 : wc.cell? ⟨w.heap.size + 1,2,none⟩ = some (.int .i64 e.k) := by rw [HWC.out]; simp [evB]
  have e3 : wc.cell? ⟨w.heap.size + 1,3,none⟩ = some (.int .i64 e.w) := by rw [HWC.out]; simp [evB]
  have q : ∀ j : Nat,j < 4 → wc.cell? ⟨w.heap.size,j,none⟩ = some (.int .i64 0) := fun j hj => by
   rw [HWC.out]; show World.cell? ((w.alloc _).alloc _) _ = _
   rw [Yd4 _ _ _ (by simp)]
   match j,hj with
   | 0,_ => simp [evB,Vs]
   | 1,_ => simp [evB,Vs]
   | 2,_ => simp [evB,Vs]
   | 3,_ => simp [evB,Vs]
  have g : ∀ j : Nat,wc.frozen? ⟨w.heap.size,j,none⟩ = false := fun j => by
   rw [HWC.out]; show World.frozen? ((w.alloc _).alloc _) _ = _
   rw [Yef _ _ _ (by simp)]; simp [evB]
  have Q0 := Ydy (q 0 (by omega))
  have Q1 := Ydy (q 1 (by omega))
  have Q2 := Ydy (q 2 (by omega))
  have Q3 := Ydy (q 3 (by omega))
  have G := Ydy g
  clear q g
  have hsz : wc.heap.size = w.heap.size + 2 := by rw [HWC.out]; simp [World.drew]
  have HS := Ydy hsz
  clear hsz
  have o3 : Zs wc m f n := by rw [HWC.out]; exact Zs.drew ((HO.out.alloc _).alloc _)
  have O3 := Ydy o3
  clear o3
  go_wp2
  refine Z4 8 (by kernel_rfl) (by kernel_rfl) ?_
  intro w3 hc3 hf3 hs3 HW3
  clear hc3 hf3 hs3
  simp only [Yd6,Yeb,Yd5,Yea]
  replace k1 : w3.cell? ⟨b,1,none⟩ = some (.map (some m)) := by rw [← HW3.out]; exact k1
  replace k2 : w3.cell? ⟨b,2,none⟩ = some (.int .i64 F) := by rw [← HW3.out]; exact k2
  have CELLS : ∀ w4 : World,w3.grownBy w4 (some m) → w4.cell? ⟨b,2,none⟩ = some (.int .i64 F) ∧ w4.cell? ⟨b,4,none⟩ = some (.int .i64 W) ∧ w4.frozen? ⟨b,2,none⟩ = false ∧ w4.frozen? ⟨b,4,none⟩ = false ∧
    w4.cell? ⟨w.heap.size + 1,0,none⟩ = some (.int .i64 e.d) ∧ w4.cell? ⟨w.heap.size + 1,1,none⟩ = some (.int .i64 e.n) ∧ w4.cell? ⟨w.heap.size + 1,2,none⟩ = some (.int .i64 e.k) ∧ w4.cell? ⟨w.heap.size + 1,3,none⟩ = some (.int .i64 e.w) ∧
    w4.cell? ⟨w.heap.size,0,none⟩ = some (.int .i64 0) ∧ w4.cell? ⟨w.heap.size,1,none⟩ = some (.int .i64 0) ∧ w4.cell? ⟨w.heap.size,2,none⟩ = some (.int .i64 0) ∧ w4.cell? ⟨w.heap.size,3,none⟩ = some (.int .i64 0) ∧
    (∀ j,w4.frozen? ⟨w.heap.size,j,none⟩ = false) ∧ w.heap.size + 2 ≤ w4.heap.size := by
   intro w4 hg
   have hb' : some b ≠ some m := fun h => HM.out (Yd2.inj h)
   have hr' : some w.heap.size ≠ some m := fun h => by have := Yd2.inj h; omega
   have he' : some (w.heap.size + 1) ≠ some m := fun h => by have := Yd2.inj h; omega
   have hs3 : w3.heap.size = w.heap.size + 2 := by rw [← HW3.out]; exact HS.out
   refine ⟨hg.cell k2 hb',hg.cell (by rw [← HW3.out]; exact k4) hb',?_,?_,hg.cell (by rw [← HW3.out]; exact e0) he',hg.cell (by rw [← HW3.out]; exact e1) he',hg.cell (by rw [← HW3.out]; exact e2) he',hg.cell (by rw [← HW3.out]; exact e3) he',
    hg.cell (by rw [← HW3.out]; exact Q0.out) hr',hg.cell (by rw [← HW3.out]; exact Q1.out) hr',hg.cell (by rw [← HW3.out]; exact Q2.out) hr',hg.cell (by rw [← HW3.out]; exact Q3.out) hr',fun j => ?_,by have := hg.size; omega⟩
   ·rw [hg.frozen_far _ (by simp; omega) hb',← HW3.out]; exact f2
   ·rw [hg.frozen_far _ (by simp; omega) hb',← HW3.out]; exact f4
   ·rw [hg.frozen_far _ (by simp; omega) hr',← HW3.out]; exact G.out j
  have CE := Ydy CELLS
  clear CELLS k4 f2 f4 e0 e1 e2 e3
  repeat still_step
  refine wpStill_nil ?_
  go_wp2_with (refine J8 (by rfl) (t:=130) (by rfl) (e:=93) Yd9 (b:=m) (by rfl) (show Zs w3 m f n by rw [← HW3.out]; exact O3.out.drew) (k:=F) (by rfl) ⟨by omega,by omega⟩ ?_; intro w4 hown4 hturn4; rw [if_pos (by rw [HH.out]; rfl)] at hown4; have HT := Ydy hturn4.grown; have HO4 := Ydy hown4; clear hturn4 hown4 k1 k2; obtain ⟨k2,k4,f2,f4,e0,e1,e2,e3,q0,q1,q2,q3,g,hs4⟩ := CE.out w4 HT.out; have G4 := Ydy g; clear g)
  generalize hw5 : w4.setCell ⟨b,2,none⟩ (.int .i64 (F + 1)) = w5
  have HW5 := Ydy hw5
  clear hw5
  replace k4 : w5.cell? ⟨b,4,none⟩ = some (.int .i64 W) := by rw [← HW5.out]; exact Zi k4 (Zp9 (by decide))
  replace f4 : w5.frozen? ⟨b,4,none⟩ = false := by rw [← HW5.out,Yd7]; exact f4
  replace e0 : w5.cell? ⟨w.heap.size + 1,0,none⟩ = some (.int .i64 e.d) := by rw [← HW5.out]; exact Zi e0 (Y2 h2.symm)
  replace e1 : w5.cell? ⟨w.heap.size + 1,1,none⟩ = some (.int .i64 e.n) := by rw [← HW5.out]; exact Zi e1 (Y2 h2.symm)
  replace e2 : w5.cell? ⟨w.heap.size + 1,2,none⟩ = some (.int .i64 e.k) := by rw [← HW5.out]; exact Zi e2 (Y2 h2.symm)
  replace e3 : w5.cell? ⟨w.heap.size + 1,3,none⟩ = some (.int .i64 e.w) := by rw [← HW5.out]; exact Zi e3 (Y2 h2.symm)
  replace q0 : w5.cell? ⟨w.heap.size,0,none⟩ = some (.int .i64 0) := by rw [← HW5.out]; exact Zi q0 (Y2 h1.symm)
  replace q1 : w5.cell? ⟨w.heap.size,1,none⟩ = some (.int .i64 0) := by rw [← HW5.out]; exact Zi q1 (Y2 h1.symm)
  replace q2 : w5.cell? ⟨w.heap.size,2,none⟩ = some (.int .i64 0) := by rw [← HW5.out]; exact Zi q2 (Y2 h1.symm)
  replace q3 : w5.cell? ⟨w.heap.size,3,none⟩ = some (.int .i64 0) := by rw [← HW5.out]; exact Zi q3 (Y2 h1.symm)
  have g0 : w5.frozen? ⟨w.heap.size,0,none⟩ = false := by rw [← HW5.out,Yd7]; exact G4.out 0
  have g1 : w5.frozen? ⟨w.heap.size,1,none⟩ = false := by rw [← HW5.out,Yd7]; exact G4.out 1
  have g2 : w5.frozen? ⟨w.heap.size,2,none⟩ = false := by rw [← HW5.out,Yd7]; exact G4.out 2
  have g3 : w5.frozen? ⟨w.heap.size,3,none⟩ = false := by rw [← HW5.out,Yd7]; exact G4.out 3
  have hs5 : w.heap.size + 2 ≤ w5.heap.size := by rw [← HW5.out]; simpa using hs4
  have z1 : b < w5.heap.size := by omega
  have z2 : b ≠ w5.heap.size := by omega
  have z3 : w5.heap.size ≠ b := by omega
  have z4 : w.heap.size < w5.heap.size := by omega
  have z5 : w.heap.size ≠ w5.heap.size := by omega
  have z6 : w5.heap.size ≠ w.heap.size := by omega
  have z7 : w.heap.size + 1 < w5.heap.size := by omega
  have z8 : w.heap.size + 1 ≠ w5.heap.size := by omega
  have z9 : w5.heap.size ≠ w.heap.size + 1 := by omega
  have y1 : b ≠ w.heap.size := h1.symm
  have y2 : b ≠ w.heap.size + 1 := h2.symm
  clear k2 f2 hs4 hs5
  go_region_with (go_at_call 210; refine (Zwx e _).mono ?_; rintro _ _ ⟨rfl,rfl⟩)
  all_goals (try go_wp2)
  all_goals
   refine bodyPost_ret (v:=.tuple #[evA e,.bool true]) (by simp [results,Tryz.results186,go_sem,evA,q0,q1,q2,q3,z4]) rfl ⟨rfl,w4,HO4.out,?_,?_⟩
   ·have := HT.out
    rw [← HW3.out,HWC.out] at this
    exact ⟨this.os,this.tape,this.output,this.size,this.block⟩
   ·rw [HW5.out]
    refine Zb.drew (Zb.alloc ?_ _)
    refine Yen ?_ (p:=⟨w.heap.size,3,none⟩) (.inl (Yd0 _)) _
    refine Yen ?_ (p:=⟨w.heap.size,2,none⟩) (.inl (Yd0 _)) _
    refine Yen ?_ (p:=⟨w.heap.size,1,none⟩) (.inl (Yd0 _)) _
    refine Yen ?_ (p:=⟨w.heap.size,0,none⟩) (.inl (Yd0 _)) _
    exact Yd1 _ _
end
theorem Zmh (h : Kx own w x m n b) (hq : b.q = []) :
  Calls Ydz 186 #[Pt x] w fun r w' => r = .returned (.tuple #[evA Vs,.bool false]) ∧ Kx own w' x m n b ∧ Zb (WrL own) w w' := by
 have c1 : w.cell? ⟨x,1,none⟩ = some (.map (some m)) := Za h.block rfl
 have c2 : w.cell? ⟨x,2,none⟩ = some (.int .i64 ((n - b.q.length : Nat) : Int)) := Za h.block rfl
 have hfew := h.few
 have hf : qf (n - b.q.length) b.q ((n - b.q.length : Nat) : Int) = none := by
  have := Zvu (n - b.q.length) b.q
  rw [hq] at this ⊢
  exact this
 refine (Zse x m b.q.length _ ((n - b.q.length : Nat) : Int) w (Ze h.block) c1 c2 h.map (by omega) (by omega) hf).mono ?_
 rintro r w' ⟨rfl,hb⟩
 have ho : Zb No w w' := ⟨hb.os,hb.tape,hb.output,hb.size,fun k hk _ => hb.block k hk⟩
 exact ⟨rfl,h.kept (fun _ _ => rfl) ho (fun _ _ _ h => h),ho.mono (fun _ _ h => h.elim)⟩
theorem Zys (f : Nat) (e : Ev) (q : List Ev) (k : Int) : qf (f + 1) q k = upd (qf f (e :: q)) (f : Int) none k := by
 unfold upd qf
 by_cases hk : k = (f : Int)
 ·subst hk
  rw [if_pos rfl,if_neg (by omega)]
 ·rw [if_neg hk]
  by_cases h : (f : Int) ≤ k
  ·rw [if_pos h,if_pos (by omega),show (k - (f : Int)).toNat = (k - ((f + 1 : Nat) : Int)).toNat + 1 from by omega]
   rfl
  ·rw [if_neg h,if_neg (by omega)]
theorem Zmi (h : Kx own w x m n b) {q : List Ev} (hq : b.q = e :: q) :
  Calls Ydz 186 #[Pt x] w fun r w' => r = .returned (.tuple #[evA e,.bool true]) ∧ Kx own w' x m n { b with q := q } ∧ Zb (WrL own) w w' := by
 have c1 : w.cell? ⟨x,1,none⟩ = some (.map (some m)) := Za h.block rfl
 have c2 : w.cell? ⟨x,2,none⟩ = some (.int .i64 ((n - b.q.length : Nat) : Int)) := Za h.block rfl
 have c4 : w.cell? ⟨x,4,none⟩ = some (.int .i64 (Jq b.q)) := Za h.block rfl
 have hfew := h.few
 have hfit := h.fit
 have hroom := h.room
 have hl : b.q.length = q.length + 1 := by rw [hq]; rfl
 have hs := Zpa b.q
 have hf : qf (n - b.q.length) b.q ((n - b.q.length : Nat) : Int) = some (evA e) := by
  unfold qf
  rw [if_pos (Int.le_refl _),Int.sub_self,hq]
  rfl
 refine (Zsf x m b.q.length _ ((n - b.q.length : Nat) : Int) (Jq b.q) e w (Ne.symm h.ne) (Ze h.block) c1 c2 c4 (fun j => Zc h.block j) h.map (by omega) (by omega) (by omega) (by omega) hf).mono ?_
 rintro r w' ⟨rfl,w4,hm,hg,ho⟩
 have hxm : x ≠ m := Ne.symm h.ne
 have hxl := Ze h.block
 have hml := h.map.lt
 have o4 : Zb (fun j => j = m) w w4 := (((Yd1 (fun j => j = m) w).alloc (evB Vs)).alloc (evB e)).trans ⟨hg.os,hg.tape,hg.output,hg.size,fun j hj hn => hg.block j hj (fun e => hn (Yd2.inj e))⟩
 have hz := o4.size
 have X4 := o4.kept h.block hxm
 have o5 : Zb (fun k => w.heap.size ≤ k) ((w4.setCell ⟨x,2,none⟩ (.int .i64 (((n - b.q.length : Nat) : Int) + 1))).setCell ⟨x,4,none⟩ (.int .i64 (Jq b.q - hvV e.w))) w' := ho
 have X6 := o5.kept (Zj (Zj X4 2 (.int .i64 (((n - b.q.length : Nat) : Int) + 1))) 4 (.int .i64 (Jq b.q - hvV e.w))) (by omega)
 refine ⟨rfl,⟨h.ox,h.om,h.room,by show q.length + b.res ≤ b.size; omega,by show q.length ≤ n ∧ n ≤ 100000; omega,?_,?_⟩,?_⟩
 ·rw [X6]
  show some (Obj.cells #[.int .i64 (b.size : Int),.map (some m),.int .i64 (((n - b.q.length : Nat) : Int) + 1),.int .i64 (b.res : Int),.int .i64 (Jq b.q - hvV e.w)] 132) = some (Obj.cells #[.int .i64 (b.size : Int),.map (some m),.int .i64 ((n - q.length : Nat) : Int),.int .i64 (b.res : Int),.int .i64 (Jq q)] 132)
  rw [show ((n - q.length : Nat) : Int) = ((n - b.q.length : Nat) : Int) + 1 from by omega,hq,Zic,show hvV e.w + Jq q - hvV e.w = Jq q from by omega]
 ·show Zs w' m (qf (n - q.length) q) q.length
  have hm2 : Zs w4 m (qf (n - q.length) q) q.length := by
   rw [show q.length = b.q.length - 1 from by omega]
   refine hm.eq (fun k _ => ?_)
   have := Zys (n - b.q.length) e q k
   rw [← hq,show n - b.q.length + 1 = n - (b.q.length - 1) from by omega] at this
   exact this
  exact ((hm2.setCell (a:=⟨x,2,none⟩) h.ne _).setCell (a:=⟨x,4,none⟩) h.ne _).kept o5 (by omega)
 ·exact ((((o4.mono (fun j _ (hj : j = m) => by subst hj; exact .inr h.om)).setCell (p:=⟨x,2,none⟩) (.inl (.inl h.ox)) _).setCell (p:=⟨x,4,none⟩) (.inl (.inl h.ox)) _).then o5 (fun i hi hT => absurd hT (by omega)))
end Go.Proofs.YtdkhbegheognnaaGreatDoor.W

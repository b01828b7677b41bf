/- Part of the proof of TopEvicts, joined by a program of the session: Mf Mg Mh Mi. -/
import Derived.Test.YtdkhbegheognnaaGreatDoorJ14
namespace Go.Proofs.YtdkhbegheognnaaGreatDoor.W
open Go.RowKit Go.Maps
open _root_.List renaming getD_eq_getElem?_getD → Ydz, map_cons → Yd1, sum_cons → Yd2, length_singleton → Yd3, getElem?_eq_getElem → Yd4, length_append → Yd5, getElem?_eq_none → Yd6, length_pos_iff → Yd8, length_set → Yd9, mem_append_left → Yee, filter_append → Yef, nodup_append → Yeg
open _root_.Nat renaming le_refl → Yd0, mod_eq_of_lt → Yd7, eq_zero_or_pos → Yea, add_mul_mod_self_left → Yeb, add_zero → Yec, lt_or_ge → Yed, mul_one → Yeh
set_option maxHeartbeats 4000000
set_option maxRecDepth 100000
variable {N i j : Nat}
variable {ps : List (List Op)}
variable {s s' : St}
variable {t t' : Th}
variable {p : Int}
variable {f : Th → Nat}
variable {left : List Bool}
variable {l : List Int}
def phV (t : Th) : Nat :=
 if t.ph = 16 then 1 else if t.ph = 1 ∨ t.ph = 2 then 13 else if t.ph = 3 then 12 else if t.ph = 4 then 11 else if t.ph = 5 then 6 else if t.ph = 6 then 4 else if t.ph = 7 then 5
 else if t.ph = 8 ∨ t.ph = 9 then 3
 else (if t.back = 1 then 13 else 2) + (if t.ph = 12 then 3 * t.vic.length else if t.ph = 13 then 3 * t.vic.length - 1 else if t.ph = 14 then 3 * t.vic.length - 2 else 0)
def Zb7 (t : Th) : Nat := if t.ph = 0 then 14 * (t.prog.length - t.op) else 14 * (t.prog.length - t.op - 1) + phV t
def Zeo (n : Int) : Nat := if n = 3 then 1 else 0
def Kd (s : St) : Nat := Xv Zb7 s.ths + Qj s.rings + 4 * s.wr.q.length + 3 * s.pol.rw.count + Zeo s.status
theorem Zoj {l : List Y8} (h : (Y3 l).2 = none) : Qj l = 0 := by
 induction l with
 | nil => rfl
 | cons a l ih =>
  unfold Y3 at h
  cases hq : a.q with
  | nil =>
   simp only [hq] at h
   have := ih h
   unfold Qj at this ⊢
   simp only [Yd1,Yd2,hq,List.length_nil]
   omega
  | cons v q => simp [hq] at h
theorem Zok {l : List Y8} {v : Int} (h : (Y3 l).2 = some v) : Qj (Y3 l).1 + 1 = Qj l := by
 induction l with
 | nil => cases h
 | cons a l ih =>
  unfold Y3 at h ⊢
  cases hq : a.q with
  | nil =>
   simp only [hq] at h ⊢
   have := ih h
   unfold Qj at this ⊢
   simp only [Yd1,Yd2,hq,List.length_nil]
   omega
  | cons u q =>
   simp only [hq] at h ⊢
   unfold Qj
   simp only [Yd1,Yd2,hq,List.length_cons]
   omega
theorem Zlj : ∀ {l : List Y8} {k : Nat} {r r' : Y8},l[k]? = some r → Qj (l.set k r') + r.q.length = Qj l + r'.q.length
 | [],_,_,_,h => by cases h
 | a :: l,0,r,r',h => by
  cases h
  unfold Qj
  simp only [List.set_cons_zero,Yd1,Yd2]
  omega
 | a :: l,k + 1,r,r',h => by
  have := Zlj (l:=l) (k:=k) (r:=r) (r':=r') h
  unfold Qj at this ⊢
  simp only [List.set_cons_succ,Yd1,Yd2] at this ⊢
  omega
theorem X7.polcnt (h : X7 N ps s) {e : Ev} (he : Qz s.cap (s.evs ++ [e])) : (s.pol.step e).1.rw.count + (s.pol.step e).2.length ≤ s.pol.rw.count + (if e.d = 1 then 1 else 0) := by
 have r := played (seed:=s.seed) h.cap.1 h.cap.2 _ s.evs rfl he.init
 have l := Zf2 he r
 rw [← h.pol] at l
 have i := r.inv
 rw [← h.pol] at i
 exact (Zp0 i l).cnt
theorem X7.firstEv (h : X7 N ps s) {e : Ev} {q : List Ev} (hq : s.wr.q = e :: q) : Qz s.cap (s.evs ++ [e]) := by
 have h1 := h.evs
 rw [hq,show s.evs ++ e :: q = (s.evs ++ [e]) ++ q from by simp] at h1
 refine ⟨fun a ha => h1.one a (Yee _ ha),?_⟩
 have h2 := h1.nod
 unfold Y6 at h2 ⊢
 rw [Yef,List.map_append] at h2
 exact (Yeg.1 h2).1
theorem X7.readEv (h : X7 N ps s) {v : Int} (hr : (Y3 s.rings).2 = some v) : Qz s.cap (s.evs ++ [⟨2,v,0,0⟩]) := by
 obtain ⟨r,hr1,hr2⟩ := Zcz hr
 have h1 := (Zd4 (e:=⟨2,v,0,0⟩) h.evs rfl (h.rings r hr1 v hr2)).1
 refine ⟨fun a ha => h1.one a (Yee _ ha),?_⟩
 have h2 := h1.nod
 unfold Y6 at h2 ⊢
 rw [Yef,List.map_append] at h2
 exact (Yeg.1 h2).1
inductive Neu (s : St) (i : Nat) (t : Th) : St → Prop
 | done (h : t.ph = 0) (ho : t.prog[t.op]? = none) : Neu s i t s
 | wait (h : (t.ph = 3 ∧ Xr s (s.sh.shard t.com.k) = true) ∨ (t.ph = 9 ∧ Xr s s.sh.n = true) ∨ (t.ph = 12 ∧ Xr s (s.sh.shard (Jy s t)) = true)) : Neu s i t s
 | go (s' : St) (ph : Int) (t' : Th) (h1 : s'.ths = s.ths.set i t') (h2 : t'.ph = ph) (h3 : s'.wr = s.wr) (h4 : Qj s'.rings = Qj s.rings) (h5 : s'.recs = s.recs) (h6 : s'.evs = s.evs)
   (h : (t.ph = 1 ∧ ph = 2 ∧ s.wr.q.length + s.wr.res = s.wr.size) ∨ (t.ph = 2 ∧ ph = 1 ∧ Xr s s.sh.n = true) ∨ (t.ph = 2 ∧ ph = 10 ∧ Xr s s.sh.n = false) ∨ (t.ph = 10 ∧ ph = 11 ∧ Qj s.rings = 0) ∨ (t.ph = 11 ∧ ph = 15 ∧ s.wr.q.length = 0) ∨ (t.ph = 15 ∧ ph = 10 ∧ (0 < Qj s.rings ∨ 0 < s.wr.q.length)) ∨ (t.ph = 15 ∧ ph = 1 ∧ Qj s.rings = 0 ∧ s.wr.q.length = 0)) : Neu s i t s'
theorem Zt (h : t.ph ≠ 0) : Zb7 t = 14 * (t.prog.length - t.op - 1) + phV t := by unfold Zb7; rw [if_neg h]
theorem Z6 (t' : Th) (ht : s.ths[i]? = some t) (hs : s'.ths = s.ths.set i t') : Kd s' + Zb7 t + Qj s.rings + 4 * s.wr.q.length + 3 * s.pol.rw.count + Zeo s.status = Kd s + Zb7 t' + Qj s'.rings + 4 * s'.wr.q.length + 3 * s'.pol.rw.count + Zeo s'.status := by
 have := Qi Zb7 t' ht
 unfold Kd
 rw [hs]
 omega
theorem Zl2 (n : Int) : Zeo n ≤ 1 := by unfold Zeo; split <;> omega
theorem Zw (t : Th) (ph : Int) (back : Int) (vic : List Int) (h1 : t.ph = ph) (h2 : t.back = back) (h3 : t.vic = vic) : phV t = (if ph = 16 then 1 else if ph = 1 ∨ ph = 2 then 13 else if ph = 3 then 12 else if ph = 4 then 11 else if ph = 5 then 6 else if ph = 6 then 4 else if ph = 7 then 5
 else if ph = 8 ∨ ph = 9 then 3
 else (if back = 1 then 13 else 2) + (if ph = 12 then 3 * vic.length else if ph = 13 then 3 * vic.length - 1 else if ph = 14 then 3 * vic.length - 2 else 0)) := by subst h1; subst h2; subst h3; rfl
theorem Zym (h : t.ph = 16 ∨ t.ph = 3 ∨ t.ph = 1 ∨ t.ph = 9) : phV t ≤ 13 := by
 rcases h with h | h | h | h
 ·have := Zw t 16 t.back t.vic h rfl rfl; simp at this; omega
 ·have := Zw t 3 t.back t.vic h rfl rfl; simp at this; omega
 ·have := Zw t 1 t.back t.vic h rfl rfl; simp at this; omega
 ·have := Zw t 9 t.back t.vic h rfl rfl; simp at this; omega
theorem Zh2 (A : X7 N ps s) (ht : s.ths[i]? = some t) (tr : Tr s i t s') : Kd s' + 1 ≤ Kd s ∨ (Kd s' ≤ Kd s ∧ Neu s i t s') := by
 have T := A.th i t ht
 have hs1 := Zl2 s.status
 cases tr with
 | done h ho => exact .inr ⟨Yd0 _,.done h ho⟩
 | wait3 h hl => exact .inr ⟨Yd0 _,.wait (.inl ⟨h,hl⟩)⟩
 | wait9 h hl => exact .inr ⟨Yd0 _,.wait (.inr (.inl ⟨h,hl⟩))⟩
 | wait12 h hl => exact .inr ⟨Yd0 _,.wait (.inr (.inr ⟨h,hl⟩))⟩
 | beg hp o ho ph er hb =>
  have hlt := Zdb ho
  have hu := Z6 (s':=Zl (Z9 s ⟨i,t.op,1,Yz o,0⟩) i { t with com := Yz o,err := er,ph := ph }) { t with com := Yz o,err := er,ph := ph } ht rfl
  have hph : ph = 16 ∨ ph = 3 ∨ ph = 1 ∨ ph = 9 := by unfold Zhu at hb; omega
  have h1 : Zb7 t = 14 * (t.prog.length - t.op) := by unfold Zb7; rw [if_pos hp]
  have h2 := Zt (t:={ t with com := Yz o,err := er,ph := ph }) (by show ph ≠ 0; omega)
  have h3 := Zym (t:={ t with com := Yz o,err := er,ph := ph }) hph
  dsimp only [Zl,Z9] at hu h2
  dsimp only [Zl,Z9]
  omega
 | full hp hf =>
  have hu := Z6 (s':=Zl s i { t with ph := 2 }) { t with ph := 2 } ht rfl
  have h1 := Zt (t:=t) (by omega)
  have h2 := Zt (t:={ t with ph := 2 }) (by simp)
  have h3 := Zw t 1 t.back t.vic hp rfl rfl
  have h4 := Zw { t with ph := 2 } 2 t.back t.vic rfl rfl rfl
  simp at h3 h4
  refine .inr ⟨?_,.go _ 2 { t with ph := 2 } rfl rfl rfl rfl rfl rfl (.inl ⟨hp,rfl,hf⟩)⟩
  dsimp only [Zl] at hu h2 ⊢
  omega
 | reserve hp hf =>
  have hu := Z6 (s':=Zl { s with wr := { s.wr with res := s.wr.res + 1 } } i { t with ph := 3 }) { t with ph := 3 } ht rfl
  have h1 := Zt (t:=t) (by omega)
  have h2 := Zt (t:={ t with ph := 3 }) (by simp)
  have h3 := Zw t 1 t.back t.vic hp rfl rfl
  have h4 := Zw { t with ph := 3 } 3 t.back t.vic rfl rfl rfl
  simp at h3 h4
  dsimp only [Zl] at hu h2 ⊢
  omega
 | back1 hp hl =>
  have hu := Z6 (s':=Zl s i { t with ph := 1 }) { t with ph := 1 } ht rfl
  have h1 := Zt (t:=t) (by omega)
  have h2 := Zt (t:={ t with ph := 1 }) (by simp)
  have h3 := Zw t 2 t.back t.vic hp rfl rfl
  have h4 := Zw { t with ph := 1 } 1 t.back t.vic rfl rfl rfl
  simp at h3 h4
  refine .inr ⟨?_,.go _ 1 { t with ph := 1 } rfl rfl rfl rfl rfl rfl (.inr (.inl ⟨hp,rfl,hl⟩))⟩
  dsimp only [Zl] at hu h2 ⊢
  omega
 | back16 hp hl =>
  have hu := Z6 (s':=Zl s i { t with ph := 16 }) { t with ph := 16 } ht rfl
  have h1 := Zt (t:=t) (by omega)
  have h2 := Zt (t:={ t with ph := 16 }) (by simp)
  have h3 := Zw t 8 t.back t.vic hp rfl rfl
  have h4 := Zw { t with ph := 16 } 16 t.back t.vic rfl rfl rfl
  simp at h3 h4
  dsimp only [Zl] at hu h2 ⊢
  omega
 | drain b hp hl =>
  have hu := Z6 (s':=Zl { s with locks := s.locks.set s.sh.n ((i : Int),true),status := 2 } i { t with back := b,ph := 10 }) { t with back := b,ph := 10 } ht rfl
  have h1 := Zt (t:=t) (by omega)
  have h2 := Zt (t:={ t with back := b,ph := 10 }) (by simp)
  have h4 := Zw { t with back := b,ph := 10 } 10 b t.vic rfl rfl rfl
  have hs2 : Zeo 2 = 0 := by decide
  simp at h4
  rcases hp with ⟨hp,rfl⟩ | ⟨hp,rfl⟩
  ·have h3 := Zw t 2 t.back t.vic hp rfl rfl
   simp at h3 h4
   refine .inr ⟨?_,.go _ 10 { t with back := 1,ph := 10 } rfl rfl rfl rfl rfl rfl (.inr (.inr (.inl ⟨hp,rfl,hl⟩)))⟩
   dsimp only [Zl] at hu h2 ⊢
   omega
  ·have h3 : phV t = 3 := by
    rcases hp with hp | hp
    ·have := Zw t 8 t.back t.vic hp rfl rfl; simpa using this
    ·have := Zw t 9 t.back t.vic hp rfl rfl; simpa using this
   simp at h4
   dsimp only [Zl] at hu h2 ⊢
   omega
 | lock3 hp hl =>
  have hu := Z6 (s':=Zl { s with locks := s.locks.set (s.sh.shard t.com.k) ((i : Int),true) } i { t with ph := 4 }) { t with ph := 4 } ht rfl
  have h1 := Zt (t:=t) (by omega)
  have h2 := Zt (t:={ t with ph := 4 }) (by simp)
  have h3 := Zw t 3 t.back t.vic hp rfl rfl
  have h4 := Zw { t with ph := 4 } 4 t.back t.vic rfl rfl rfl
  simp at h3 h4
  dsimp only [Zl] at hu h2 ⊢
  omega
 | lock12 hp hl =>
  have hv : 1 ≤ t.vic.length := Yd8.2 (T.vic (by omega))
  have hu := Z6 (s':=Zl { s with locks := s.locks.set (s.sh.shard (Jy s t)) ((i : Int),true) } i { t with ph := 13 }) { t with ph := 13 } ht rfl
  have h1 := Zt (t:=t) (by omega)
  have h2 := Zt (t:={ t with ph := 13 }) (by simp)
  have h3 := Zw t 12 t.back t.vic hp rfl rfl
  have h4 := Zw { t with ph := 13 } 13 t.back t.vic rfl rfl rfl
  simp at h3 h4
  dsimp only [Zl] at hu h2 ⊢
  omega
 | get hp o ho hd c hc =>
  have hu := Z6 (s':=Zl (Z9 s ⟨i,t.op,2,c,0⟩) i { t with com := c,node := ((Zk s.sh.ent o.k).map (·.n)).getD 0,ph := 5 }) { t with com := c,node := ((Zk s.sh.ent o.k).map (·.n)).getD 0,ph := 5 } ht rfl
  have h1 := Zt (t:=t) (by omega)
  have h2 := Zt (t:={ t with com := c,node := ((Zk s.sh.ent o.k).map (·.n)).getD 0,ph := 5 }) (by simp)
  have h3 := Zw t 4 t.back t.vic hp rfl rfl
  have h4 := Zw { t with com := c,node := ((Zk s.sh.ent o.k).map (·.n)).getD 0,ph := 5 } 5 t.back t.vic rfl rfl rfl
  simp at h3 h4
  dsimp only [Zl,Z9] at hu h2 ⊢
  omega
 | putOld hp o ho hd e he =>
  have hu := Z6 (s':=Zl { s with sh := s.sh.put o,wr := { s.wr with res := s.wr.res - 1,q := s.wr.q ++ [⟨3,e.n,o.k,o.w⟩] },recs := s.recs ++ [⟨i,t.op,2,t.com,0⟩] } i { t with ph := 5 }) { t with ph := 5 } ht rfl
  have h1 := Zt (t:=t) (by omega)
  have h2 := Zt (t:={ t with ph := 5 }) (by simp)
  have h3 := Zw t 4 t.back t.vic hp rfl rfl
  have h4 := Zw { t with ph := 5 } 5 t.back t.vic rfl rfl rfl
  simp at h3 h4
  dsimp only [Zl] at hu h2 ⊢
  simp only [Yd5,Yd3] at hu
  omega
 | putNew hp o ho hd he =>
  have hu := Z6 (s':=Zl { s with sh := s.sh.put o,keys := Yn s.keys ((s.sh.given : Int) + 1) o.k,wr := { s.wr with res := s.wr.res - 1,q := s.wr.q ++ [⟨1,(s.sh.given : Int) + 1,o.k,o.w⟩] },recs := s.recs ++ [⟨i,t.op,2,t.com,0⟩] } i { t with ph := 5 }) { t with ph := 5 } ht rfl
  have h1 := Zt (t:=t) (by omega)
  have h2 := Zt (t:={ t with ph := 5 }) (by simp)
  have h3 := Zw t 4 t.back t.vic hp rfl rfl
  have h4 := Zw { t with ph := 5 } 5 t.back t.vic rfl rfl rfl
  simp at h3 h4
  dsimp only [Zl] at hu h2 ⊢
  simp only [Yd5,Yd3] at hu
  omega
 | delHit hp o ho hd e he c hc =>
  have hu := Z6 (s':=Zl { s with sh := s.sh.remove o.k,wr := { s.wr with res := s.wr.res - 1,q := s.wr.q ++ [⟨4,e.n,o.k,e.w⟩] },recs := s.recs ++ [⟨i,t.op,2,c,0⟩] } i { t with com := c,ph := 5 }) { t with com := c,ph := 5 } ht rfl
  have h1 := Zt (t:=t) (by omega)
  have h2 := Zt (t:={ t with com := c,ph := 5 }) (by simp)
  have h3 := Zw t 4 t.back t.vic hp rfl rfl
  have h4 := Zw { t with com := c,ph := 5 } 5 t.back t.vic rfl rfl rfl
  simp at h3 h4
  dsimp only [Zl] at hu h2 ⊢
  simp only [Yd5,Yd3] at hu
  omega
 | delMiss hp o ho hd he c hc =>
  have hu := Z6 (s':=Zl { s with wr := { s.wr with res := s.wr.res - 1 },recs := s.recs ++ [⟨i,t.op,2,c,0⟩] } i { t with com := c,ph := 5 }) { t with com := c,ph := 5 } ht rfl
  have h1 := Zt (t:=t) (by omega)
  have h2 := Zt (t:={ t with com := c,ph := 5 }) (by simp)
  have h3 := Zw t 4 t.back t.vic hp rfl rfl
  have h4 := Zw { t with com := c,ph := 5 } 5 t.back t.vic rfl rfl rfl
  simp at h3 h4
  dsimp only [Zl] at hu h2 ⊢
  omega
 | unlock hp ph hx =>
  have hph : ph = 7 ∨ ph = 16 ∨ ph = 6 := by unfold Zp8 at hx; rcases hx with ⟨a,_⟩ | ⟨a,_⟩ | ⟨a,b,_⟩ <;> omega
  have hu := Z6 (s':=Zl (Yr s (s.sh.shard t.com.k)) i { t with ph := ph }) { t with ph := ph } ht rfl
  have h1 := Zt (t:=t) (by omega)
  have h2 := Zt (t:={ t with ph := ph }) (by show ph ≠ 0; omega)
  have h3 := Zw t 5 t.back t.vic hp rfl rfl
  have h4 : phV { t with ph := ph } ≤ 5 := by
   rcases hph with rfl | rfl | rfl
   ·have := Zw { t with ph := 7 } 7 t.back t.vic rfl rfl rfl; simp at this; omega
   ·have := Zw { t with ph := 16 } 16 t.back t.vic rfl rfl rfl; simp at this; omega
   ·have := Zw { t with ph := 6 } 6 t.back t.vic rfl rfl rfl; simp at this; omega
  simp at h3
  dsimp only [Zl,Yr] at hu h2 ⊢
  omega
 | offer hp r hr hq =>
  have hu := Z6 (s':=Zl { s with rings := s.rings.set (Jd s i) { r with q := r.q ++ [t.node] } } i { t with ph := 16 }) { t with ph := 16 } ht rfl
  have h1 := Zt (t:=t) (by omega)
  have h2 := Zt (t:={ t with ph := 16 }) (by simp)
  have h3 := Zw t 6 t.back t.vic hp rfl rfl
  have h4 := Zw { t with ph := 16 } 16 t.back t.vic rfl rfl rfl
  have h5 := Zlj (r':={ r with q := r.q ++ [t.node] }) hr
  simp at h3 h4
  dsimp only [Zl] at hu h2 ⊢
  simp only [Yd5,Yd3] at h5
  omega
 | lost hp =>
  have hu := Z6 (s':=Zl s i { t with ph := 8 }) { t with ph := 8 } ht rfl
  have h1 := Zt (t:=t) (by omega)
  have h2 := Zt (t:={ t with ph := 8 }) (by simp)
  have h3 := Zw t 6 t.back t.vic hp rfl rfl
  have h4 := Zw { t with ph := 8 } 8 t.back t.vic rfl rfl rfl
  simp at h3 h4
  dsimp only [Zl] at hu h2 ⊢
  omega
 | mark hp =>
  have hu := Z6 (s':=Zl { s with status := J5 s.status } i { t with ph := 8 }) { t with ph := 8 } ht rfl
  have h1 := Zt (t:=t) (by omega)
  have h2 := Zt (t:={ t with ph := 8 }) (by simp)
  have h3 := Zw t 7 t.back t.vic hp rfl rfl
  have h4 := Zw { t with ph := 8 } 8 t.back t.vic rfl rfl rfl
  have h5 := Zl2 (J5 s.status)
  simp at h3 h4
  dsimp only [Zl] at hu h2 ⊢
  omega
 | ans hp =>
  obtain ⟨o,ho,_⟩ := T.at_ (by omega)
  have hlt := Zdb ho
  have hu := Z6 (s':=Zl (Z9 s ⟨i,t.op,3,t.com,t.err⟩) i { t with op := t.op + 1,ph := 0 }) { t with op := t.op + 1,ph := 0 } ht rfl
  have h1 := Zt (t:=t) (by omega)
  have h2 : Zb7 { t with op := t.op + 1,ph := 0 } = 14 * (t.prog.length - (t.op + 1)) := by unfold Zb7; rw [if_pos rfl]
  have h3 := Zw t 16 t.back t.vic hp rfl rfl
  simp at h3
  dsimp only [Zl,Z9] at hu h2 ⊢
  omega
 | reads0 hp hr =>
  have hu := Z6 (s':=Zl s i { t with ph := 11 }) { t with ph := 11 } ht rfl
  have h1 := Zt (t:=t) (by omega)
  have h2 := Zt (t:={ t with ph := 11 }) (by simp)
  have h3 := Zw t 10 t.back t.vic hp rfl rfl
  have h4 := Zw { t with ph := 11 } 11 t.back t.vic rfl rfl rfl
  simp at h3 h4
  refine .inr ⟨?_,.go _ 11 { t with ph := 11 } rfl rfl rfl rfl rfl rfl (.inr (.inr (.inr (.inl ⟨hp,rfl,Zoj hr⟩))))⟩
  dsimp only [Zl] at hu h2 ⊢
  omega
 | reads1 hp v hr =>
  have h1 := Zok hr
  have h2 := A.polcnt (A.readEv hr)
  rw [if_neg (show ¬ ((2 : Int) = 1) by decide)] at h2
  refine .inl ?_
  unfold Kd
  dsimp only [Yj]
  omega
 | writes0 hp hq =>
  have hu := Z6 (s':=Zl s i { t with ph := 15 }) { t with ph := 15 } ht rfl
  have h1 := Zt (t:=t) (by omega)
  have h2 := Zt (t:={ t with ph := 15 }) (by simp)
  have h3 := Zw t 11 t.back t.vic hp rfl rfl
  have h4 := Zw { t with ph := 15 } 15 t.back t.vic rfl rfl rfl
  simp at h3 h4
  refine .inr ⟨?_,.go _ 15 { t with ph := 15 } rfl rfl rfl rfl rfl rfl (.inr (.inr (.inr (.inr (.inl ⟨hp,rfl,by rw [hq]; rfl⟩)))))⟩
  dsimp only [Zl] at hu h2 ⊢
  omega
 | writes1 hp e q hq ph hn =>
  have hu := Z6 (s':=Zl (Yj { s with wr := { s.wr with q := q } } e) i { t with vic := (s.pol.step e).2,ph := ph }) { t with vic := (s.pol.step e).2,ph := ph } ht rfl
  have hc := A.polcnt (A.firstEv hq)
  have hlq : s.wr.q.length = q.length + 1 := by rw [hq]; rfl
  have h1 := Zt (t:=t) (by omega)
  have h3 := Zw t 11 t.back t.vic hp rfl rfl
  have hph : (ph = 11 ∧ (s.pol.step e).2 = []) ∨ ph = 12 := by unfold Jn at hn; rcases hn with ⟨a,b⟩ | ⟨a,b⟩; exact .inl ⟨b,a⟩; exact .inr b
  have h2 := Zt (t:={ t with vic := (s.pol.step e).2,ph := ph }) (by show ph ≠ 0; omega)
  have h4 : phV { t with vic := (s.pol.step e).2,ph := ph } ≤ (if t.back = 1 then 13 else 2) + 3 * (s.pol.step e).2.length := by
   rcases hph with ⟨rfl,_⟩ | rfl
   ·have := Zw { t with vic := (s.pol.step e).2,ph := 11 } 11 t.back (s.pol.step e).2 rfl rfl rfl; simp at this; omega
   ·have := Zw { t with vic := (s.pol.step e).2,ph := 12 } 12 t.back (s.pol.step e).2 rfl rfl rfl; simp at this; omega
  have h5 : (if e.d = 1 then 1 else 0) ≤ 1 := by split <;> omega
  simp at h3
  refine .inl ?_
  dsimp only [Zl,Yj] at hu h2 ⊢
  generalize (if e.d = 1 then 1 else 0) = z at *
  generalize (if t.back = 1 then 13 else 2) = y at *
  omega
 | evict0 hp hk =>
  have hv : 1 ≤ t.vic.length := Yd8.2 (T.vic (by omega))
  have hu := Z6 (s':=Zl s i { t with ph := 14 }) { t with ph := 14 } ht rfl
  have h1 := Zt (t:=t) (by omega)
  have h2 := Zt (t:={ t with ph := 14 }) (by simp)
  have h3 := Zw t 13 t.back t.vic hp rfl rfl
  have h4 := Zw { t with ph := 14 } 14 t.back t.vic rfl rfl rfl
  simp at h3 h4
  dsimp only [Zl] at hu h2 ⊢
  omega
 | evict1 hp k hk e he =>
  have hv : 1 ≤ t.vic.length := Yd8.2 (T.vic (by omega))
  have hu := Z6 (s':=Zl { s with sh := s.sh.remove k,recs := s.recs ++ [⟨i,-1,2,⟨4,e.k,e.v,true⟩,0⟩] } i { t with ph := 14 }) { t with ph := 14 } ht rfl
  have h1 := Zt (t:=t) (by omega)
  have h2 := Zt (t:={ t with ph := 14 }) (by simp)
  have h3 := Zw t 13 t.back t.vic hp rfl rfl
  have h4 := Zw { t with ph := 14 } 14 t.back t.vic rfl rfl rfl
  simp at h3 h4
  dsimp only [Zl] at hu h2 ⊢
  omega
 | release hp ph hn =>
  have hv : 1 ≤ t.vic.length := Yd8.2 (T.vic (by omega))
  have hu := Z6 (s':=Zl (Yr s (s.sh.shard (Jy s t))) i { t with vic := t.vic.drop 1,ph := ph }) { t with vic := t.vic.drop 1,ph := ph } ht rfl
  have h1 := Zt (t:=t) (by omega)
  have h3 := Zw t 14 t.back t.vic hp rfl rfl
  have hph : ph = 11 ∨ ph = 12 := by unfold Jn at hn; rcases hn with ⟨a,b⟩ | ⟨a,b⟩; exact .inl b; exact .inr b
  have h2 := Zt (t:={ t with vic := t.vic.drop 1,ph := ph }) (by show ph ≠ 0; omega)
  have h4 : phV { t with vic := t.vic.drop 1,ph := ph } ≤ (if t.back = 1 then 13 else 2) + 3 * (t.vic.length - 1) := by
   rcases hph with rfl | rfl
   ·have := Zw { t with vic := t.vic.drop 1,ph := 11 } 11 t.back (t.vic.drop 1) rfl rfl rfl; simp at this ⊢; omega
   ·have := Zw { t with vic := t.vic.drop 1,ph := 12 } 12 t.back (t.vic.drop 1) rfl rfl rfl; simp at this ⊢; omega
  simp at h3
  refine .inl ?_
  dsimp only [Zl,Yr] at hu h2 ⊢
  generalize (if t.back = 1 then 13 else 2) = y at *
  omega
 | again hp hc =>
  have hu := Z6 (s':=Zl { s with status := 2 } i { t with ph := 10 }) { t with ph := 10 } ht rfl
  have h1 := Zt (t:=t) (by omega)
  have h2 := Zt (t:={ t with ph := 10 }) (by simp)
  have h3 := Zw t 15 t.back t.vic hp rfl rfl
  have h4 := Zw { t with ph := 10 } 10 t.back t.vic rfl rfl rfl
  have hs2 : Zeo 2 = 0 := by decide
  simp at h3 h4
  dsimp only [Zl] at hu h2 ⊢
  by_cases e3 : s.status = 3
  ·have : Zeo s.status = 1 := by rw [e3]; rfl
   refine .inl ?_
   omega
  ·refine .inr ⟨by omega,.go _ 10 { t with ph := 10 } rfl rfl rfl rfl rfl rfl (.inr (.inr (.inr (.inr (.inr (.inl ⟨hp,rfl,by omega⟩))))))⟩
 | finish hp hc =>
  have hb := T.back
  have hb1 := T.back1 (by omega)
  have hu := Z6 (s':=Zl (Yr { s with status := 0 } s.sh.n) i { t with ph := t.back }) { t with ph := t.back } ht rfl
  have h1 := Zt (t:=t) (by omega)
  have h2 := Zt (t:={ t with ph := t.back }) (by exact hb1)
  have h3 := Zw t 15 t.back t.vic hp rfl rfl
  have h4 := Zw { t with ph := t.back } t.back t.back t.vic rfl rfl rfl
  have hs2 : Zeo 0 = 0 := by decide
  have hb2 : t.back = 1 ∨ t.back = 16 := by omega
  rcases hb2 with hb2 | hb2
  ·rw [hb2] at h3 h4 h2 hu ⊢
   simp at h3 h4
   refine .inr ⟨?_,.go _ 1 _ rfl rfl rfl rfl rfl rfl (.inr (.inr (.inr (.inr (.inr (.inr ⟨hp,rfl,by omega,by omega⟩))))))⟩
   dsimp only [Zl,Yr] at hu h2 ⊢
   omega
  ·rw [hb2] at h3 h4 h2 hu ⊢
   simp at h3 h4
   refine .inl ?_
   dsimp only [Zl,Yr] at hu h2 ⊢
   omega
def Qp (t : Th) : Prop := t.ph = 4 ∨ t.ph = 5 ∨ t.ph = 6 ∨ t.ph = 7 ∨ t.ph = 8 ∨ t.ph = 13 ∨ t.ph = 14 ∨ t.ph = 16 ∨ (t.ph = 0 ∧ t.op < t.prog.length)
instance (t : Th) : Decidable (Qp t) := by unfold Qp; infer_instance
def Kl (t : Th) : Prop := t.ph = 3 ∨ t.ph = 12
instance (t : Th) : Decidable (Kl t) := by unfold Kl; infer_instance
def Zgz (t : Th) : Nat := if Qp t then 1 else 0
def Zg0 (t : Th) : Nat := if Kl t then 1 else 0
def Zbw (p : Int) (t : Th) : Nat := if t.ph = p then 1 else 0
def rk (a b c1 c2 c9 c10 c11 c15 W R size : Nat) : Nat :=
 if 0 < a + b then 0
 else if W = size then (if 0 < c11 then 0 else if 0 < c10 then 1 else if 0 < c15 then 2 else if 0 < c2 + c9 then 3 else 4)
 else if 0 < c1 then 0
 else if 0 < c10 + c11 + c15 then
  (if 0 < c2 then 1
   else if 0 < R then (if 0 < c10 then 2 else if 0 < c15 then 3 else 4)
   else if 0 < W then (if 0 < c11 then 2 else if 0 < c10 then 3 else 4)
   else (if 0 < c15 then 2 else if 0 < c11 then 3 else 4))
 else 5
def hp (ph : Int) (isA isB : Prop) (a b c1 c2 c9 c10 c11 c15 W size : Nat) : Prop :=
 (0 < a ∧ isA) ∨ (a = 0 ∧ 0 < b ∧ isB) ∨
 (a = 0 ∧ b = 0 ∧ W = size ∧ ((0 < c10 + c11 + c15 ∧ (ph = 10 ∨ ph = 11 ∨ ph = 15)) ∨ (c10 + c11 + c15 = 0 ∧ 0 < c2 + c9 ∧ (ph = 2 ∨ ph = 9)) ∨ (c10 + c11 + c15 = 0 ∧ c2 + c9 = 0 ∧ ph = 1))) ∨
 (a = 0 ∧ b = 0 ∧ W ≠ size ∧ ((0 < c1 ∧ ph = 1) ∨ (c1 = 0 ∧ 0 < c10 + c11 + c15 ∧ 0 < c2 ∧ ph = 2) ∨ (c1 = 0 ∧ 0 < c10 + c11 + c15 ∧ c2 = 0 ∧ (ph = 10 ∨ ph = 11 ∨ ph = 15)) ∨ (c1 = 0 ∧ c10 + c11 + c15 = 0 ∧ (ph = 2 ∨ ph = 9))))
def Zru (a b c1 c2 c9 c10 c11 c15 W R size r : Nat) : Prop :=
 (0 < a + b ∧ r = 0) ∨
 (a + b = 0 ∧ W = size ∧ ((0 < c11 ∧ r = 0) ∨ (c11 = 0 ∧ 0 < c10 ∧ r = 1) ∨ (c11 = 0 ∧ c10 = 0 ∧ 0 < c15 ∧ r = 2) ∨ (c11 = 0 ∧ c10 = 0 ∧ c15 = 0 ∧ 0 < c2 + c9 ∧ r = 3) ∨ (c11 = 0 ∧ c10 = 0 ∧ c15 = 0 ∧ c2 + c9 = 0 ∧ r = 4))) ∨
 (a + b = 0 ∧ W ≠ size ∧ 0 < c1 ∧ r = 0) ∨
 (a + b = 0 ∧ W ≠ size ∧ c1 = 0 ∧ 0 < c10 + c11 + c15 ∧ 0 < c2 ∧ r = 1) ∨
 (a + b = 0 ∧ W ≠ size ∧ c1 = 0 ∧ 0 < c10 + c11 + c15 ∧ c2 = 0 ∧ 0 < R ∧ ((0 < c10 ∧ r = 2) ∨ (c10 = 0 ∧ 0 < c15 ∧ r = 3) ∨ (c10 = 0 ∧ c15 = 0 ∧ r = 4))) ∨
 (a + b = 0 ∧ W ≠ size ∧ c1 = 0 ∧ 0 < c10 + c11 + c15 ∧ c2 = 0 ∧ R = 0 ∧ 0 < W ∧ ((0 < c11 ∧ r = 2) ∨ (c11 = 0 ∧ 0 < c10 ∧ r = 3) ∨ (c11 = 0 ∧ c10 = 0 ∧ r = 4))) ∨
 (a + b = 0 ∧ W ≠ size ∧ c1 = 0 ∧ 0 < c10 + c11 + c15 ∧ c2 = 0 ∧ R = 0 ∧ W = 0 ∧ ((0 < c15 ∧ r = 2) ∨ (c15 = 0 ∧ 0 < c11 ∧ r = 3) ∨ (c15 = 0 ∧ c11 = 0 ∧ r = 4))) ∨
 (a + b = 0 ∧ W ≠ size ∧ c1 = 0 ∧ c10 + c11 + c15 = 0 ∧ r = 5)
theorem Zlw (a b c1 c2 c9 c10 c11 c15 W R size : Nat) : Zru a b c1 c2 c9 c10 c11 c15 W R size (rk a b c1 c2 c9 c10 c11 c15 W R size) := by
 unfold rk
 split
 ·exact .inl ⟨by omega,rfl⟩
 split
 ·refine .inr (.inl ⟨by omega,by omega,?_⟩)
  split
  ·exact .inl ⟨by omega,rfl⟩
  split
  ·exact .inr (.inl ⟨by omega,by omega,rfl⟩)
  split
  ·exact .inr (.inr (.inl ⟨by omega,by omega,by omega,rfl⟩))
  split
  ·exact .inr (.inr (.inr (.inl ⟨by omega,by omega,by omega,by omega,rfl⟩)))
  ·exact .inr (.inr (.inr (.inr ⟨by omega,by omega,by omega,by omega,rfl⟩)))
 refine .inr (.inr ?_)
 split
 ·exact .inl ⟨by omega,by omega,by omega,rfl⟩
 refine .inr ?_
 split
 ·split
  ·exact .inl ⟨by omega,by omega,by omega,by omega,by omega,rfl⟩
  refine .inr ?_
  split
  ·refine .inl ⟨by omega,by omega,by omega,by omega,by omega,by omega,?_⟩
   split
   ·exact .inl ⟨by omega,rfl⟩
   split
   ·exact .inr (.inl ⟨by omega,by omega,rfl⟩)
   ·exact .inr (.inr ⟨by omega,by omega,rfl⟩)
  refine .inr ?_
  split
  ·refine .inl ⟨by omega,by omega,by omega,by omega,by omega,by omega,by omega,?_⟩
   split
   ·exact .inl ⟨by omega,rfl⟩
   split
   ·exact .inr (.inl ⟨by omega,by omega,rfl⟩)
   ·exact .inr (.inr ⟨by omega,by omega,rfl⟩)
  refine .inr (.inl ⟨by omega,by omega,by omega,by omega,by omega,by omega,by omega,?_⟩)
  split
  ·exact .inl ⟨by omega,rfl⟩
  split
  ·exact .inr (.inl ⟨by omega,by omega,rfl⟩)
  ·exact .inr (.inr ⟨by omega,by omega,rfl⟩)
 ·exact .inr (.inr (.inr (.inr ⟨by omega,by omega,by omega,by omega,rfl⟩)))
theorem Zzx (a b c1 c2 c9 c10 c11 c15 W R size : Nat) : rk a b c1 c2 c9 c10 c11 c15 W R size ≤ 5 := by have := Zlw a b c1 c2 c9 c10 c11 c15 W R size; unfold Zru at this; omega
def Way (p q : Int) (W R res size : Nat) (held : Bool) : Prop :=
 (p = 1 ∧ q = 2 ∧ W + res = size) ∨ (p = 2 ∧ q = 1 ∧ held = true) ∨ (p = 2 ∧ q = 10 ∧ held = false) ∨ (p = 10 ∧ q = 11 ∧ R = 0) ∨ (p = 11 ∧ q = 15 ∧ W = 0) ∨ (p = 15 ∧ q = 10 ∧ (0 < R ∨ 0 < W)) ∨ (p = 15 ∧ q = 1 ∧ R = 0 ∧ W = 0)
theorem Yba {a b c1 c2 c9 c10 c11 c15 d1 d2 d10 d11 d15 W R res size : Nat} {q : Int} {held : Bool} (hw : Way p q W R res size held) (hz : 1 ≤ size) (hres : a + b = 0 → res = 0) (hheld : held = true → 0 < c10 + c11 + c15 + a + b) (hfree : held = false → c10 + c11 + c15 = 0) (hone : c10 + c11 + c15 ≤ 1)
  (e1 : d1 + (if p = 1 then 1 else 0) = c1 + (if q = 1 then 1 else 0)) (e2 : d2 + (if p = 2 then 1 else 0) = c2 + (if q = 2 then 1 else 0)) (e10 : d10 + (if p = 10 then 1 else 0) = c10 + (if q = 10 then 1 else 0)) (e11 : d11 + (if p = 11 then 1 else 0) = c11 + (if q = 11 then 1 else 0)) (e15 : d15 + (if p = 15 then 1 else 0) = c15 + (if q = 15 then 1 else 0)) :
  rk a b d1 d2 c9 d10 d11 d15 W R size ≤ rk a b c1 c2 c9 c10 c11 c15 W R size ∧
  (hp p False False a b c1 c2 c9 c10 c11 c15 W size → rk a b d1 d2 c9 d10 d11 d15 W R size < rk a b c1 c2 c9 c10 c11 c15 W R size) := by
 have h1 := Zlw a b c1 c2 c9 c10 c11 c15 W R size
 have h2 := Zlw a b d1 d2 c9 d10 d11 d15 W R size
 generalize rk a b c1 c2 c9 c10 c11 c15 W R size = r1 at *
 generalize rk a b d1 d2 c9 d10 d11 d15 W R size = r2 at *
 by_cases hb : 0 < a + b
 ·unfold Zru at h1 h2
  refine ⟨by omega,fun h => ?_⟩
  unfold hp at h
  simp only [and_false,false_or] at h
  omega
 ·have hr := hres (by omega)
  unfold Zru at h1 h2
  unfold hp
  simp only [hb,false_and,false_or] at h1 h2
  rcases hw with ⟨rfl,rfl,h⟩ | ⟨rfl,rfl,h⟩ | ⟨rfl,rfl,h⟩ | ⟨rfl,rfl,h⟩ | ⟨rfl,rfl,h⟩ | ⟨rfl,rfl,h⟩ | ⟨rfl,rfl,h,h'⟩
  ·simp at e1 e2 e10 e11 e15
   omega
  ·have := hheld h
   simp at e1 e2 e10 e11 e15
   omega
  ·have := hfree h
   simp at e1 e2 e10 e11 e15
   omega
  ·simp at e1 e2 e10 e11 e15
   omega
  ·simp at e1 e2 e10 e11 e15
   omega
  ·simp at e1 e2 e10 e11 e15
   omega
  ·simp at e1 e2 e10 e11 e15
   omega
theorem Yaq {a b c1 c2 c9 c10 c11 c15 d1 d2 d10 d11 d15 W R res size : Nat} {q x : Int} {A B : Prop} {held : Bool} (hw : Way p q W R res size held) (hz : 1 ≤ size) (hres : a + b = 0 → res = 0) (hheld : held = true → 0 < c10 + c11 + c15 + a + b) (hfree : held = false → c10 + c11 + c15 = 0) (hone : c10 + c11 + c15 ≤ 1)
  (e1 : d1 + (if p = 1 then 1 else 0) = c1 + (if q = 1 then 1 else 0)) (e2 : d2 + (if p = 2 then 1 else 0) = c2 + (if q = 2 then 1 else 0)) (e10 : d10 + (if p = 10 then 1 else 0) = c10 + (if q = 10 then 1 else 0)) (e11 : d11 + (if p = 11 then 1 else 0) = c11 + (if q = 11 then 1 else 0)) (e15 : d15 + (if p = 15 then 1 else 0) = c15 + (if q = 15 then 1 else 0))
  (hD : (x = 10 ∨ x = 11 ∨ x = 15) → ¬ (p = 10 ∨ p = 11 ∨ p = 15)) (h : hp x A B a b c1 c2 c9 c10 c11 c15 W size) :
  rk a b d1 d2 c9 d10 d11 d15 W R size < rk a b c1 c2 c9 c10 c11 c15 W R size ∨ hp x A B a b d1 d2 c9 d10 d11 d15 W size := by
 have h1 := Zlw a b c1 c2 c9 c10 c11 c15 W R size
 have h2 := Zlw a b d1 d2 c9 d10 d11 d15 W R size
 generalize rk a b c1 c2 c9 c10 c11 c15 W R size = r1 at *
 generalize rk a b d1 d2 c9 d10 d11 d15 W R size = r2 at *
 unfold hp at h ⊢
 rcases h with h | h | h | h
 ·exact .inr (.inl h)
 ·exact .inr (.inr (.inl h))
 ·obtain ⟨ha,hb,hW,h⟩ := h
  have hr := hres (by omega)
  unfold Zru at h1 h2
  subst ha
  subst hb
  simp only [Nat.lt_irrefl,Yec,false_and,false_or,true_and,hW,ne_eq,not_true_eq_false,or_false] at h1 h2 ⊢
  rcases h with h | h | h
  ·clear h1 h2
   rcases hw with ⟨rfl,rfl,h'⟩ | ⟨rfl,rfl,h'⟩ | ⟨rfl,rfl,h'⟩ | ⟨rfl,rfl,h'⟩ | ⟨rfl,rfl,h'⟩ | ⟨rfl,rfl,h'⟩ | ⟨rfl,rfl,h',h''⟩
   all_goals simp at e1 e2 e10 e11 e15
   all_goals first
    | (have:=hheld h'; omega)
    | (have:=hfree h'; omega)
    | omega
  ·have hr1 : r1 = 3 := by omega
   clear h1
   rcases hw with ⟨rfl,rfl,h'⟩ | ⟨rfl,rfl,h'⟩ | ⟨rfl,rfl,h'⟩ | ⟨rfl,rfl,h'⟩ | ⟨rfl,rfl,h'⟩ | ⟨rfl,rfl,h'⟩ | ⟨rfl,rfl,h',h''⟩
   all_goals simp at e1 e2 e10 e11 e15
   all_goals first
    | (have:=hheld h'; omega)
    | (have:=hfree h'; omega)
    | omega
  ·have hr1 : r1 = 4 := by omega
   clear h1
   rcases hw with ⟨rfl,rfl,h'⟩ | ⟨rfl,rfl,h'⟩ | ⟨rfl,rfl,h'⟩ | ⟨rfl,rfl,h'⟩ | ⟨rfl,rfl,h'⟩ | ⟨rfl,rfl,h'⟩ | ⟨rfl,rfl,h',h''⟩
   all_goals simp at e1 e2 e10 e11 e15
   all_goals first
    | (have:=hheld h'; omega)
    | (have:=hfree h'; omega)
    | omega
 ·obtain ⟨ha,hb,hW,h⟩ := h
  have hr := hres (by omega)
  unfold Zru at h1 h2
  subst ha
  subst hb
  simp only [Nat.lt_irrefl,Yec,false_and,false_or,true_and,hW] at h1 h2 ⊢
  rcases h with h | h | h | h
  ·clear h1 h2
   rcases hw with ⟨rfl,rfl,h'⟩ | ⟨rfl,rfl,h'⟩ | ⟨rfl,rfl,h'⟩ | ⟨rfl,rfl,h'⟩ | ⟨rfl,rfl,h'⟩ | ⟨rfl,rfl,h'⟩ | ⟨rfl,rfl,h',h''⟩
   all_goals simp at e1 e2 e10 e11 e15
   all_goals first
    | (have:=hheld h'; omega)
    | (have:=hfree h'; omega)
    | omega
  ·have hr1 : r1 = 1 := by omega
   clear h1
   rcases hw with ⟨rfl,rfl,h'⟩ | ⟨rfl,rfl,h'⟩ | ⟨rfl,rfl,h'⟩ | ⟨rfl,rfl,h'⟩ | ⟨rfl,rfl,h'⟩ | ⟨rfl,rfl,h'⟩ | ⟨rfl,rfl,h',h''⟩
   all_goals simp at e1 e2 e10 e11 e15
   all_goals first
    | (have:=hheld h'; omega)
    | (have:=hfree h'; omega)
    | omega
  ·clear h1 h2
   rcases hw with ⟨rfl,rfl,h'⟩ | ⟨rfl,rfl,h'⟩ | ⟨rfl,rfl,h'⟩ | ⟨rfl,rfl,h'⟩ | ⟨rfl,rfl,h'⟩ | ⟨rfl,rfl,h'⟩ | ⟨rfl,rfl,h',h''⟩
   all_goals simp at e1 e2 e10 e11 e15
   all_goals first
    | (have:=hheld h'; omega)
    | (have:=hfree h'; omega)
    | omega
  ·have hr1 : r1 = 5 := by omega
   clear h1
   rcases hw with ⟨rfl,rfl,h'⟩ | ⟨rfl,rfl,h'⟩ | ⟨rfl,rfl,h'⟩ | ⟨rfl,rfl,h'⟩ | ⟨rfl,rfl,h'⟩ | ⟨rfl,rfl,h'⟩ | ⟨rfl,rfl,h',h''⟩
   all_goals simp at e1 e2 e10 e11 e15
   all_goals first
    | (have:=hheld h'; omega)
    | (have:=hfree h'; omega)
    | omega
theorem Zcp : ∀ {l : List Th},0 < Xv f l → ∃ (i : Nat) (t : Th),l[i]? = some t ∧ 0 < f t
 | [],h => by simp [Xv] at h
 | a :: l,h => by
  by_cases ha : 0 < f a
  ·exact ⟨0,a,rfl,ha⟩
  ·have : 0 < Xv f l := by
    simp only [Xv,Yd1,Yd2] at h ⊢
    omega
   obtain ⟨i,t,h1,h2⟩ := Zcp this
   exact ⟨i + 1,t,h1,h2⟩
theorem Zcy {l : List Th} (h : ∀ (i : Nat) (t : Th),l[i]? = some t → f t = 0) : Xv f l = 0 := by
 rcases Yea (Xv f l) with e | e
 ·exact e
 ·obtain ⟨i,t,h1,h2⟩ := Zcp e
  have := h i t h1
  omega
theorem Zl8 (h1 : ∀ t,f t ≤ 1) : ∀ {l : List Th},(∀ (i j : Nat) (t u : Th),l[i]? = some t → l[j]? = some u → 0 < f t → 0 < f u → i = j) → Xv f l ≤ 1
 | [],_ => by simp [Xv]
 | a :: l,h => by
  have hs : Xv f (a :: l) = f a + Xv f l := by simp only [Xv,Yd1,Yd2]
  by_cases ha : 0 < f a
  ·have : Xv f l = 0 := Zcy (fun i t hi => by
    rcases Yea (f t) with e | e
    ·exact e
    ·have := h 0 (i + 1) a t rfl hi ha e
     omega)
   have := h1 a
   omega
  ·have := Zl8 h1 (l:=l) (fun i j t u hi hj ht hu => by have := h (i + 1) (j + 1) t u hi hj ht hu; omega)
   omega
theorem Zr9 {g : Th → Nat} (h : ∀ t,f t ≤ g t) (l : List Th) : Xv f l ≤ Xv g l := by
 induction l with
 | nil => exact Yd0 _
 | cons a l ih =>
  have := h a
  simp only [Xv,Yd1,Yd2] at ih ⊢
  omega
theorem Zhe (f g : Th → Nat) (l : List Th) : Xv (fun t => f t + g t) l = Xv f l + Xv g l := by
 induction l with
 | nil => rfl
 | cons a l ih =>
  simp only [Xv,Yd1,Yd2] at ih ⊢
  omega
structure Ki (N : Nat) (ps : List (List Op)) (s : St) : Prop where
 a : X7 N ps s
 b : Zmn s
 size : 1 ≤ s.wr.size
def cA (s : St) : Nat := Xv Zgz s.ths
def cB (s : St) : Nat := Xv Zg0 s.ths
def cP (p : Int) (s : St) : Nat := Xv (Zbw p) s.ths
def Zfp (s : St) : Nat := rk (cA s) (cB s) (cP 1 s) (cP 2 s) (cP 9 s) (cP 10 s) (cP 11 s) (cP 15 s) s.wr.q.length (Qj s.rings) s.wr.size
def mu (s : St) : Nat := 6 * Kd s + Zfp s
def Zan (s : St) (t : Th) : Prop := hp t.ph (Qp t) (Kl t) (cA s) (cB s) (cP 1 s) (cP 2 s) (cP 9 s) (cP 10 s) (cP 11 s) (cP 15 s) s.wr.q.length s.wr.size
theorem Zpm (h : 0 < Zbw p t) : t.ph = p := by
 unfold Zbw at h
 split at h
 ·assumption
 ·omega
theorem Ya4 (h : t.ph = p) : Zbw p t = 1 := by unfold Zbw; rw [if_pos h]
theorem Zjl (ht : s.ths[i]? = some t) (h : t.ph = p) : 0 < cP p s := by
 have := Zbp (Zbw p) ht
 rw [Ya4 h] at this
 exact this
theorem Zjk (ht : s.ths[i]? = some t) (h : Qp t) : 0 < cA s := by
 have := Zbp Zgz ht
 unfold Zgz at this
 rw [if_pos h] at this
 exact this
theorem Ztq (ht : s.ths[i]? = some t) (h : Kl t) : 0 < cB s := by
 have := Zbp Zg0 ht
 unfold Zg0 at this
 rw [if_pos h] at this
 exact this
theorem Ki.one (h : Ki N ps s) {u : Th} (ht : s.ths[i]? = some t) (hu : s.ths[j]? = some u) (h1 : 10 ≤ t.ph ∧ t.ph ≤ 15) (h2 : 10 ≤ u.ph ∧ u.ph ≤ 15) : i = j := by
 have a := h.b.lk.l2 i t s.sh.n ht (.inr (.inr ⟨h1.1,h1.2,rfl⟩))
 have b := h.b.lk.l2 j u s.sh.n hu (.inr (.inr ⟨h2.1,h2.2,rfl⟩))
 rw [a] at b
 simp only [Option.some.injEq,Prod.mk.injEq,and_true] at b
 omega
theorem Ki.hone (h : Ki N ps s) : cP 10 s + cP 11 s + cP 15 s ≤ 1 := by
 have h1 := Zhe (fun t => Zbw 10 t + Zbw 11 t) (Zbw 15) s.ths
 have h2 := Zhe (Zbw 10) (Zbw 11) s.ths
 unfold cP
 rw [← h2,← h1]
 refine Zl8 (fun t => ?_) (fun i j t u hi hj ht hu => ?_)
 ·unfold Zbw
  split <;> split <;> split <;> omega
 ·have ha : ∀ v : Th,0 < Zbw 10 v + Zbw 11 v + Zbw 15 v → 10 ≤ v.ph ∧ v.ph ≤ 15 := fun v hv => by
   unfold Zbw at hv
   split at hv
   ·omega
   ·split at hv
    ·omega
    ·split at hv
     ·omega
     ·omega
  exact h.one hi hj (ha t ht) (ha u hu)
theorem Ki.hres (h : Ki N ps s) (h0 : cA s + cB s = 0) : s.wr.res = 0 := by
 have h1 := Zhe Zgz Zg0 s.ths
 have h2 := Zr9 (f:=Zbx) (g:=fun t => Zgz t + Zg0 t) (fun t => by
  unfold Zbx
  split
  ·rename_i e
   rcases e.1 with e | e
   ·have : Kl t := .inl e
    show 1 ≤ Zgz t + Zg0 t
    unfold Zg0
    rw [if_pos this]
    omega
   ·have : Qp t := .inl e
    show 1 ≤ Zgz t + Zg0 t
    unfold Zgz
    rw [if_pos this]
    omega
  ·omega) s.ths
 rw [h.b.res]
 unfold cA cB at h0
 omega
theorem Ki.hheld (h : Ki N ps s) (h0 : Xr s s.sh.n = true) : 0 < cP 10 s + cP 11 s + cP 15 s + cA s + cB s := by
 obtain ⟨a,ha⟩ := Zia (by rw [h.b.lk.ll]; omega) h0
 obtain ⟨j,u,rfl,h1,h2⟩ := h.b.lk.l1 _ _ ha
 have hn := h.a.n.1
 rcases h2 with ⟨_,e⟩ | ⟨_,e⟩ | ⟨e1,e2,_⟩
 ·have := Zco hn u.com.k; omega
 ·have := Zco hn ((Zk s.keys (u.vic.headD 0)).getD 0); omega
 ·have : u.ph = 10 ∨ u.ph = 11 ∨ u.ph = 15 ∨ u.ph = 12 ∨ (u.ph = 13 ∨ u.ph = 14) := by omega
  rcases this with e | e | e | e | e
  ·have := Zjl h1 e; omega
  ·have := Zjl h1 e; omega
  ·have := Zjl h1 e; omega
  ·have := Ztq h1 (.inr e); omega
  ·have := Zjk h1 (by unfold Qp; omega); omega
theorem Ki.hshard (h : Ki N ps s) (k : Int) (h0 : Xr s (s.sh.shard k) = true) : 0 < cA s := by
 have hn := h.a.n.1
 have hk := Zco hn k
 obtain ⟨a,ha⟩ := Zia (by rw [h.b.lk.ll]; omega) h0
 obtain ⟨j,u,rfl,h1,h2⟩ := h.b.lk.l1 _ _ ha
 rcases h2 with ⟨e,_⟩ | ⟨e,_⟩ | ⟨e1,e2,e3⟩
 ·exact Zjk h1 (by unfold Qp; omega)
 ·exact Zjk h1 (by unfold Qp; omega)
 ·omega
theorem Ki.hfree (h : Ki N ps s) (h0 : Xr s s.sh.n = false) : cP 10 s + cP 11 s + cP 15 s = 0 := by
 obtain ⟨a,ha⟩ := Zgv h0
 have hz : ∀ p : Int,10 ≤ p ∧ p ≤ 15 → cP p s = 0 := fun p hp => Zcy (fun i t hi => by
  rcases Yea (Zbw p t) with e | e
  ·exact e
  ·have e2 := Zpm e
   have := h.b.lk.l2 i t s.sh.n hi (.inr (.inr ⟨by omega,by omega,rfl⟩))
   rw [ha] at this
   cases this)
 rw [hz 10 (by omega),hz 11 (by omega),hz 15 (by omega)]
theorem Ki.tr (h : Ki N ps s) (ht : s.ths[i]? = some t) : Tr s i t (step s i) := by
 have T := h.a.th i t ht
 have hs : step s i = Yu s i t := by unfold step; rw [ht]
 rw [hs]
 refine Yc9 ⟨T.op,T.ph,fun h0 => ?_,T.vic⟩ (fun n k hk => ?_) ?_
 ·obtain ⟨o,h1,h2,h3,h4,_⟩ := T.at_ h0
  exact ⟨o,h1,h2,h3,h4⟩
 ·obtain ⟨e,he,_⟩ := h.a.e2 n k hk
  rw [he]; rfl
 ·have : Jd s i < s.rings.length := Qo _ _ (by have := h.a.rl.1; omega)
  exact ⟨_,Yd4 this⟩
theorem V4 (h : s.ths[i]? = none) : step s i = s := by unfold step; rw [h]
theorem Zze (tr : Tr s i t s') : s'.wr.size = s.wr.size := by cases tr <;> rfl
theorem Ki.step (hN : N ≤ 60000) (h : Ki N ps s) (i : Nat) : Ki N ps (step s i) := by
 cases ht : s.ths[i]? with
 | none => rw [V4 ht]; exact h
 | some t => exact ⟨h.a.step hN ht (h.tr ht),h.b.step h.a ht (h.tr ht),by rw [Zze (h.tr ht)]; exact h.size⟩
theorem Zxj (ht : s.ths[i]? = some t) (hs : s'.ths = s.ths.set i t') (p : Int) : cP p s' + (if t.ph = p then 1 else 0) = cP p s + (if t'.ph = p then 1 else 0) := by
 have := Qi (Zbw p) t' ht
 unfold cP
 rw [hs]
 exact this
theorem Ztv (ht : s.ths[i]? = some t) (hs : s'.ths = s.ths.set i t') (h1 : ¬ Qp t) (h2 : ¬ Kl t) (h3 : ¬ Qp t') (h4 : ¬ Kl t') : cA s' = cA s ∧ cB s' = cB s := by
 have ha := Qi Zgz t' ht
 have hb := Qi Zg0 t' ht
 unfold Zgz at ha
 rw [if_neg h1,if_neg h3] at ha
 unfold Zg0 at hb
 rw [if_neg h2,if_neg h4] at hb
 unfold cA cB
 rw [hs]
 exact ⟨ha,hb⟩
theorem Zlb (h : t.ph = 1 ∨ t.ph = 2 ∨ t.ph = 10 ∨ t.ph = 11 ∨ t.ph = 15) : ¬ Qp t ∧ ¬ Kl t := by unfold Qp Kl; omega
theorem Zjx (h : Ki N ps s) {u : Th} (hu : s.ths[j]? = some u) : mu (step s j) ≤ mu s ∧ (Zan s u → mu (step s j) < mu s) ∧ ∀ (i : Nat) (t : Th),i ≠ j → s.ths[i]? = some t → Zan s t → mu (step s j) < mu s ∨ Zan (step s j) t := by
 have hr : ∀ x : St,Zfp x ≤ 5 := fun x => Zzx _ _ _ _ _ _ _ _ _ _ _
 rcases Zh2 h.a hu (h.tr hu) with hc | ⟨hc,hn⟩
 ·have h1 := hr (_root_.Go.Proofs.YtdkhbegheognnaaGreatDoor.W.step s j)
  have hlt : mu (W.step s j) < mu s := by unfold mu; omega
  exact ⟨by omega,fun _ => hlt,fun _ _ _ _ _ => .inl hlt⟩
 ·generalize W.step s j = s' at *
  cases hn with
  | done h0 ho =>
   refine ⟨Yd0 _,fun hh => ?_,fun i t _ _ hh => .inr hh⟩
   have hlen : ¬ u.op < u.prog.length := fun hl => by rw [Yd4 hl] at ho; cases ho
   have hA : ¬ Qp u := by unfold Qp; omega
   have hB : ¬ Kl u := by unfold Kl; omega
   unfold Zan hp at hh
   simp only [hA,hB,and_false,false_or] at hh
   omega
  | wait hw =>
   refine ⟨Yd0 _,fun hh => ?_,fun i t _ _ hh => .inr hh⟩
   rcases hw with ⟨h0,hl⟩ | ⟨h0,hl⟩ | ⟨h0,hl⟩
   ·have := h.hshard _ hl
    have hA : ¬ Qp u := by unfold Qp; omega
    unfold Zan hp at hh
    simp only [hA,and_false,false_or] at hh
    omega
   ·have := h.hheld hl
    have hA : ¬ Qp u := by unfold Qp; omega
    have hB : ¬ Kl u := by unfold Kl; omega
    unfold Zan hp at hh
    simp only [hA,hB,and_false,false_or] at hh
    omega
   ·have := h.hshard _ hl
    have hA : ¬ Qp u := by unfold Qp; omega
    unfold Zan hp at hh
    simp only [hA,and_false,false_or] at hh
    omega
  | go _ ph u' h1 h2 h3 h4 _ _ hw =>
   have hW : Way u.ph ph s.wr.q.length (Qj s.rings) s.wr.res s.wr.size (Xr s s.sh.n) := hw
   have hpu : u.ph = 1 ∨ u.ph = 2 ∨ u.ph = 10 ∨ u.ph = 11 ∨ u.ph = 15 := by unfold Way at hW; omega
   have hpq : u'.ph = 1 ∨ u'.ph = 2 ∨ u'.ph = 10 ∨ u'.ph = 11 ∨ u'.ph = 15 := by unfold Way at hW; omega
   obtain ⟨b1,b2⟩ := Zlb hpu
   obtain ⟨b3,b4⟩ := Zlb hpq
   obtain ⟨k1,k2⟩ := Ztv hu h1 b1 b2 b3 b4
   have e := fun p => Zxj (t':=u') hu h1 p
   simp only [h2] at e
   have e9 : cP 9 s' = cP 9 s := by
    have := e 9
    rw [if_neg (by omega),if_neg (by unfold Way at hW; omega)] at this
    exact this
   have M := Yba hW h.size h.hres (fun x => by have := h.hheld x; omega) h.hfree h.hone (c9:=cP 9 s) (e 1) (e 2) (e 10) (e 11) (e 15)
   have hrk : Zfp s' = rk (cA s) (cB s) (cP 1 s') (cP 2 s') (cP 9 s) (cP 10 s') (cP 11 s') (cP 15 s') s.wr.q.length (Qj s.rings) s.wr.size := by unfold Zfp; rw [k1,k2,e9,h3,h4]
   refine ⟨?_,fun hh => ?_,fun i t hij ht hh => ?_⟩
   ·unfold mu
    rw [hrk]
    have := M.1
    unfold Zfp
    omega
   ·have : hp u.ph False False (cA s) (cB s) (cP 1 s) (cP 2 s) (cP 9 s) (cP 10 s) (cP 11 s) (cP 15 s) s.wr.q.length s.wr.size := by
     unfold Zan hp at hh
     unfold hp
     simp only [b1,b2] at hh
     exact hh
    have := M.2 this
    unfold mu
    rw [hrk]
    unfold Zfp
    omega
   ·have hD : (t.ph = 10 ∨ t.ph = 11 ∨ t.ph = 15) → ¬ (u.ph = 10 ∨ u.ph = 11 ∨ u.ph = 15) := fun x y => hij (h.one ht hu (by omega) (by omega))
    have K := Yaq hW h.size h.hres (fun x => by have := h.hheld x; omega) h.hfree h.hone (c9:=cP 9 s) (e 1) (e 2) (e 10) (e 11) (e 15) hD hh
    rcases K with K | K
    ·refine .inl ?_
     unfold mu
     rw [hrk]
     unfold Zfp
     omega
    ·refine .inr ?_
     unfold Zan
     rw [k1,k2,e9,h3]
     exact K
theorem Zo9 (h : Ki N ps s) (ht : s.ths[i]? = some t) (hl : t.op < t.prog.length) : ∃ (j : Nat) (u : Th),s.ths[j]? = some u ∧ Zan s u := by
 have T := h.a.th i t ht
 obtain ⟨p0,p1⟩ := T.ph
 have ex : ∀ p : Int,0 < cP p s → ∃ (j : Nat) (u : Th),s.ths[j]? = some u ∧ u.ph = p := fun p hp => by
  obtain ⟨j,u,h1,h2⟩ := Zcp hp
  exact ⟨j,u,h1,Zpm h2⟩
 by_cases ha : 0 < cA s
 ·obtain ⟨j,u,h1,h2⟩ := Zcp ha
  refine ⟨j,u,h1,.inl ⟨ha,?_⟩⟩
  unfold Zgz at h2
  split at h2
  ·assumption
  ·omega
 by_cases hb : 0 < cB s
 ·obtain ⟨j,u,h1,h2⟩ := Zcp hb
  refine ⟨j,u,h1,.inr (.inl ⟨by omega,hb,?_⟩)⟩
  unfold Zg0 at h2
  split at h2
  ·assumption
  ·omega
 have hA : ¬ Qp t := fun x => ha (Zjk ht x)
 have hB : ¬ Kl t := fun x => hb (Ztq ht x)
 have hph : t.ph = 1 ∨ t.ph = 2 ∨ t.ph = 9 ∨ t.ph = 10 ∨ t.ph = 11 ∨ t.ph = 15 := by unfold Qp at hA; unfold Kl at hB; omega
 have hcp : 0 < cP t.ph s := Zjl ht rfl
 have d10 := ex 10
 have d11 := ex 11
 have d15 := ex 15
 have exD : 0 < cP 10 s + cP 11 s + cP 15 s → ∃ (j : Nat) (u : Th),s.ths[j]? = some u ∧ (u.ph = 10 ∨ u.ph = 11 ∨ u.ph = 15) := fun hd => by
  by_cases q1 : 0 < cP 10 s
  ·obtain ⟨j,u,h1,h2⟩ := d10 q1; exact ⟨j,u,h1,.inl h2⟩
  by_cases q2 : 0 < cP 11 s
  ·obtain ⟨j,u,h1,h2⟩ := d11 q2; exact ⟨j,u,h1,.inr (.inl h2)⟩
  ·obtain ⟨j,u,h1,h2⟩ := d15 (by omega); exact ⟨j,u,h1,.inr (.inr h2)⟩
 have ex29 : 0 < cP 2 s + cP 9 s → ∃ (j : Nat) (u : Th),s.ths[j]? = some u ∧ (u.ph = 2 ∨ u.ph = 9) := fun hd => by
  by_cases q1 : 0 < cP 2 s
  ·obtain ⟨j,u,h1,h2⟩ := ex 2 q1; exact ⟨j,u,h1,.inl h2⟩
  ·obtain ⟨j,u,h1,h2⟩ := ex 9 (by omega); exact ⟨j,u,h1,.inr h2⟩
 by_cases hf : s.wr.q.length = s.wr.size
 ·by_cases hD : 0 < cP 10 s + cP 11 s + cP 15 s
  ·obtain ⟨j,u,h1,h2⟩ := exD hD
   exact ⟨j,u,h1,.inr (.inr (.inl ⟨by omega,by omega,hf,.inl ⟨hD,h2⟩⟩))⟩
  ·by_cases h29 : 0 < cP 2 s + cP 9 s
   ·obtain ⟨j,u,h1,h2⟩ := ex29 h29
    exact ⟨j,u,h1,.inr (.inr (.inl ⟨by omega,by omega,hf,.inr (.inl ⟨by omega,h29,h2⟩)⟩))⟩
   ·refine ⟨i,t,ht,.inr (.inr (.inl ⟨by omega,by omega,hf,.inr (.inr ⟨by omega,by omega,?_⟩)⟩))⟩
    rcases hph with e | e | e | e | e | e
    ·exact e
    ·rw [e] at hcp; omega
    ·rw [e] at hcp; omega
    ·rw [e] at hcp; omega
    ·rw [e] at hcp; omega
    ·rw [e] at hcp; omega
 ·by_cases h1 : 0 < cP 1 s
  ·obtain ⟨j,u,g1,g2⟩ := ex 1 h1
   exact ⟨j,u,g1,.inr (.inr (.inr ⟨by omega,by omega,hf,.inl ⟨h1,g2⟩⟩))⟩
  ·by_cases hD : 0 < cP 10 s + cP 11 s + cP 15 s
   ·by_cases h2 : 0 < cP 2 s
    ·obtain ⟨j,u,g1,g2⟩ := ex 2 h2
     exact ⟨j,u,g1,.inr (.inr (.inr ⟨by omega,by omega,hf,.inr (.inl ⟨by omega,hD,h2,g2⟩)⟩))⟩
    ·obtain ⟨j,u,g1,g2⟩ := exD hD
     exact ⟨j,u,g1,.inr (.inr (.inr ⟨by omega,by omega,hf,.inr (.inr (.inl ⟨by omega,hD,by omega,g2⟩))⟩))⟩
   ·refine ⟨i,t,ht,.inr (.inr (.inr ⟨by omega,by omega,hf,.inr (.inr (.inr ⟨by omega,by omega,?_⟩))⟩))⟩
    rcases hph with e | e | e | e | e | e
    ·rw [e] at hcp; omega
    ·exact .inl e
    ·exact .inr e
    ·rw [e] at hcp; omega
    ·rw [e] at hcp; omega
    ·rw [e] at hcp; omega
theorem Zib (h : Ki N ps s) (ht : s.ths[i]? = some t) (hh : Zan s t) : t.op < t.prog.length := by
 have T := h.a.th i t ht
 by_cases h0 : t.ph = 0
 ·unfold Zan hp at hh
  by_cases hl : t.op < t.prog.length
  ·exact hl
  ·have hA : ¬ Qp t := by unfold Qp; omega
   have hB : ¬ Kl t := by unfold Kl; omega
   simp only [hA,hB,and_false,false_or] at hh
   omega
 ·obtain ⟨o,ho,_⟩ := T.at_ h0
  exact Zdb ho
theorem Zg9 {first : Nat} : ∀ {n : Nat} {i : Nat},n ≤ left.length → Zbu left first n = some i → left[i]? = some true
 | 0,i,_,h => by cases h
 | n + 1,i,hn,h => by
  unfold Zbu at h
  split at h
  ·rename_i e
   cases h
   rw [Ydz] at e
   cases hg : left[(first + (left.length - (n + 1))) % left.length]? with
   | none => rw [hg] at e; cases e
   | some b => rw [hg] at e; simp only [Option.getD_some] at e; rw [e]
  ·exact Zg9 (by omega) h
theorem Zg8 {first : Nat} : ∀ {n : Nat},n ≤ left.length → Zbu left first n = none → ∀ k,left.length - n ≤ k → k < left.length → left[(first + k) % left.length]? = some false
 | 0,_,_,k,h1,h2 => by omega
 | n + 1,hn,h,k,h1,h2 => by
  unfold Zbu at h
  split at h
  ·cases h
  ·rename_i e
   by_cases hk : k = left.length - (n + 1)
   ·subst hk
    have hlt : (first + (left.length - (n + 1))) % left.length < left.length := Nat.mod_lt _ (by omega)
    rw [Ydz,Yd4 hlt] at e
    rw [Yd4 hlt]
    simp only [Option.getD_some] at e
    rw [not_true e]
   ·exact Zg8 (by omega) h k (by omega) h2
theorem Vw (h : Ql p left = some i) : left[i]? = some true := by
 unfold Ql at h
 split at h
 ·cases h
 ·exact Zg9 (Yd0 _) h
theorem Zdk (h : Ql p left = none) : ∀ (i : Nat) (b : Bool),left[i]? = some b → b = false := by
 intro i b hi
 have hlt : i < left.length := by
  rcases Yed i left.length with a | a
  ·exact a
  ·rw [Yd6 a] at hi; cases hi
 unfold Ql at h
 rw [if_neg (by omega)] at h
 have hn := Zg8 (Yd0 _) h
 have hf : (p % (left.length : Int)).toNat < left.length := by
  have h1 := Int.emod_nonneg p (b:=(left.length : Int)) (by omega)
  have h2 := Int.emod_lt_of_pos p (b:=(left.length : Int)) (by omega)
  omega
 generalize (p % (left.length : Int)).toNat = f at *
 have : left[i]? = some false := by
  by_cases hfi : f ≤ i
  ·have := hn (i - f) (by omega) (by omega)
   rwa [show (f + (i - f)) % left.length = i from by rw [show f + (i - f) = i from by omega]; exact Yd7 hlt] at this
  ·have := hn (i + left.length - f) (by omega) (by omega)
   rwa [show (f + (i + left.length - f)) % left.length = i from by rw [show f + (i + left.length - f) = i + left.length from by omega,Nat.add_mod_right]; exact Yd7 hlt] at this
 rw [this] at hi
 cases hi
 rfl
theorem Zu9 (h : left[i]? = some true) : Ql (i : Int) left = some i := by
 have hlt : i < left.length := by
  rcases Yed i left.length with a | a
  ·exact a
  ·rw [Yd6 a] at h; cases h
 unfold Ql
 rw [if_neg (by omega)]
 have hm : ((i : Int) % (left.length : Int)).toNat = i := by
  rw [Int.emod_eq_of_lt (by omega) (by omega)]; simp
 rw [hm]
 have hl : left.length = (left.length - 1) + 1 := by omega
 rw [hl]
 unfold Zbu
 have hz : (i + (left.length - (left.length - 1 + 1))) % left.length = i := by
  rw [← hl,Nat.sub_self,Yec]
  exact Yd7 hlt
 rw [hz,if_pos]
 rw [Ydz,h]
 rfl
theorem Vu {b : Bool} : (Xm s)[i]? = some b ↔ ∃ t,s.ths[i]? = some t ∧ decide (t.op < t.prog.length) = b := by
 unfold Xm
 rw [List.getElem?_map]
 cases s.ths[i]? with
 | none => simp
 | some t => simp
theorem Ybo (tr : Tr s i t s') : s'.ths.length = s.ths.length := by cases tr <;> first | rfl | exact Yd9 ..
theorem Zwk (h : Ki N ps s) (i : Nat) : (W.step s i).ths.length = s.ths.length := by
 cases ht : s.ths[i]? with
 | none => rw [V4 ht]
 | some t => exact Ybo (h.tr ht)
theorem Zwj (tr : Tr s i t s') (hij : j ≠ i) : s'.ths[j]? = s.ths[j]? := by cases tr <;> first | rfl | exact Zay hij
theorem Zbk {n k : Nat} (h : Ql (if l.length = 0 then 0 else l.getD (n % l.length) 0) (Xm s) = some i) : Qt l s n (k + 1) = Qt l (W.step s i) (n + 1) k := by
 rw [Qt]
 simp only [h]
theorem Ku {n k : Nat} (h : Ql (if l.length = 0 then 0 else l.getD (n % l.length) 0) (Xm s) = none) : Qt l s n (k + 1) = (s,n) := by
 rw [Qt]
 simp only [h]
theorem Ybr (hN : N ≤ 60000) {T : Nat} (hT : 1 ≤ T) (hl : l.length = T) (hg : ∀ k,k < T → l.getD k 0 = (k : Int)) : ∀ (d n k : Nat) {s : St} {t : Th},Ki N ps s → s.ths[i]? = some t → Zan s t → (n + d) % T = i → d + 1 ≤ k →
  ∃ s1 n1 k1,Qt l s n k = Qt l s1 n1 k1 ∧ mu s1 < mu s ∧ k ≤ k1 + (d + 1) ∧ Ki N ps s1 := by
 intro d
 induction d with
 | zero =>
  intro n k s t h ht hh hd hk
  obtain ⟨k',rfl⟩ : ∃ k',k = k' + 1 := ⟨k - 1,by omega⟩
  have hl' : (Xm s)[i]? = some true := Vu.2 ⟨t,ht,by simpa using Zib h ht hh⟩
  have hp : (if l.length = 0 then 0 else l.getD (n % l.length) 0) = (i : Int) := by
   rw [if_neg (by omega),hl,hg _ (Nat.mod_lt _ (by omega))]
   rw [Yec] at hd
   rw [hd]
  refine ⟨W.step s i,n + 1,k',Zbk (by rw [hp]; exact Zu9 hl'),(Zjx h ht).2.1 hh,by omega,h.step hN i⟩
 | succ d ih =>
  intro n k s t h ht hh hd hk
  obtain ⟨k',rfl⟩ : ∃ k',k = k' + 1 := ⟨k - 1,by omega⟩
  have hl' : (Xm s)[i]? = some true := Vu.2 ⟨t,ht,by simpa using Zib h ht hh⟩
  cases hn : Ql (if l.length = 0 then 0 else l.getD (n % l.length) 0) (Xm s) with
  | none => have := Zdk hn i true hl'; cases this
  | some j =>
   rw [Zbk hn]
   obtain ⟨u,hu,_⟩ := Vu.1 (Vw hn)
   obtain ⟨m1,m2,m3⟩ := Zjx h hu
   by_cases hij : i = j
   ·subst hij
    rw [ht] at hu
    cases hu
    exact ⟨_,n + 1,k',rfl,m2 hh,by omega,h.step hN i⟩
   ·rcases m3 i t hij ht hh with m | m
    ·exact ⟨_,n + 1,k',rfl,m,by omega,h.step hN j⟩
    ·obtain ⟨s1,n1,k1,g1,g2,g3,g4⟩ := ih (n + 1) k' (h.step hN j) ((Zwj (h.tr hu) hij).trans ht) m (by rw [← hd]; congr 1; omega) (by omega)
     exact ⟨s1,n1,k1,g1,by omega,by omega,g4⟩
theorem Ztg (hN : N ≤ 60000) {T : Nat} (hT : 1 ≤ T) (hl : l.length = T) (hg : ∀ k,k < T → l.getD k 0 = (k : Int)) : ∀ (m n k : Nat) {s : St},Ki N ps s → s.ths.length ≤ T → mu s ≤ m → T * (m + 1) ≤ k →
  ∀ (i : Nat) (b : Bool),(Xm (Qt l s n k).1)[i]? = some b → b = false := by
 intro m
 induction m with
 | zero =>
  intro n k s h hs hm hk i b hb
  obtain ⟨k',rfl⟩ : ∃ k',k = k' + 1 := ⟨k - 1,by have : 1 ≤ T * (0 + 1) := by rw [Nat.zero_add,Yeh]; exact hT
                                                 omega⟩
  cases hn : Ql (if l.length = 0 then 0 else l.getD (n % l.length) 0) (Xm s) with
  | none => rw [Ku hn] at hb; exact Zdk hn i b hb
  | some j =>
   obtain ⟨u,hu,hlt⟩ := Vu.1 (Vw hn)
   obtain ⟨j2,u2,hu2,hh⟩ := Zo9 h hu (by simpa using hlt)
   have := (Zjx h hu2).2.1 hh
   omega
 | succ m ih =>
  intro n k s h hs hm hk i b hb
  have hk1 : T * (m + 1 + 1) = T * (m + 1) + T := by rw [Nat.mul_add T (m + 1) 1,Yeh]
  obtain ⟨k',rfl⟩ : ∃ k',k = k' + 1 := ⟨k - 1,by omega⟩
  cases hn : Ql (if l.length = 0 then 0 else l.getD (n % l.length) 0) (Xm s) with
  | none => rw [Ku hn] at hb; exact Zdk hn i b hb
  | some j =>
   obtain ⟨u,hu,hlt⟩ := Vu.1 (Vw hn)
   obtain ⟨j2,u2,hu2,hh⟩ := Zo9 h hu (by simpa using hlt)
   have hj2 : j2 < s.ths.length := by
    rcases Yed j2 s.ths.length with a | a
    ·exact a
    ·rw [Yd6 a] at hu2; cases hu2
   have hd : ∃ d,d < T ∧ (n + d) % T = j2 := by
    have hr : n % T < T := Nat.mod_lt _ (by omega)
    have hdm := Nat.div_add_mod n T
    by_cases e : n % T ≤ j2
    ·refine ⟨j2 - n % T,by omega,?_⟩
     rw [show n + (j2 - n % T) = j2 + T * (n / T) from by omega,Yeb]
     exact Yd7 (by omega)
    ·refine ⟨j2 + T - n % T,by omega,?_⟩
     rw [show n + (j2 + T - n % T) = j2 + T * (n / T + 1) from by rw [Nat.mul_add,Yeh]; omega,Yeb]
     exact Yd7 (by omega)
   obtain ⟨d,hd1,hd2⟩ := hd
   obtain ⟨s1,n1,k1,g1,g2,g3,g4⟩ := Ybr hN hT hl hg d n (k' + 1) h hu2 hh hd2 (by omega)
   rw [g1] at hb
   have hlen : s1.ths.length = s.ths.length := by
    have e1 := congrArg List.length g4.a.progs
    have e2 := congrArg List.length h.a.progs
    simp only [List.length_map] at e1 e2
    omega
   exact ih n1 k1 g4 (by omega) (by omega) (by omega) i b hb
theorem Zui {l : List Rec} {r : Rec} {k : Nat} (d : Rec) (h : k < l.length) : (l ++ [r]).getD k d = l.getD k d := by
 rw [Ydz,Ydz,List.getElem?_append_left h]
theorem Zgg (l : List Rec) (r : Rec) : ∀ k,k ≤ l.length → Xa (l ++ [r]) k = Xa l k
 | 0,_ => rfl
 | k + 1,h => by
  rw [Xa,Xa,Zgg l r k (by omega),Zui _ (by omega)]
theorem Zfc (l : List Rec) (r : Rec) : Xa (l ++ [r]) (l ++ [r]).length = (match Xa l l.length with | none => none | some x => Zck x r l.length) := by
 rw [Yd5,Yd3,Xa,Zgg l r _ (Yd0 _)]
 have : (l ++ [r]).getD l.length ⟨0,0,0,⟨0,0,0,false⟩,0⟩ = r := by
  rw [Ydz,List.getElem?_append_right (Yd0 _),Nat.sub_self]; rfl
 rw [this]
 cases Xa l l.length <;> rfl
def Ks (t : Th) : Option (Rec × Nat) → Prop
 | none => t.ph = 0 ∧ t.op = 0
 | some p => (t.ph = 0 ∧ p.1.a = 3 ∧ (t.op : Int) = p.1.o + 1) ∨ (t.ph ≠ 0 ∧ p.1.a = 1 ∧ p.1.o = t.op ∧ p.1.c.d = t.com.d ∧ p.1.c.k = t.com.k ∧ t.ph ≠ 5 ∧ t.ph ≠ 6 ∧ t.ph ≠ 7) ∨ (t.ph ≠ 0 ∧ p.1.a = 2 ∧ p.1.o = t.op ∧ p.1.c = t.com ∧ t.err = 0 ∧ Zu t)
theorem Yp {o : Option (Rec × Nat)} (h : Ks t o) (h0 : t.ph ≠ 0) (h0' : t'.ph ≠ 0) (ho : t'.op = t.op) (hc : t'.com = t.com) (he : t'.err = t.err) (h5 : t.ph ≠ 5 ∧ t.ph ≠ 6 ∧ t.ph ≠ 7 → t'.ph ≠ 5 ∧ t'.ph ≠ 6 ∧ t'.ph ≠ 7) (hp : Zu t → Zu t') : Ks t' o := by
 cases o with
 | none => exact absurd h.1 h0
 | some p =>
  unfold Ks at h ⊢
  rw [ho,hc,he]
  rcases h with ⟨a,_⟩ | ⟨a,b,c,d,e,f⟩ | ⟨a,b,c,d,e,f⟩
  ·exact absurd a h0
  ·exact .inr (.inl ⟨h0',b,c,d,e,h5 f⟩)
  ·exact .inr (.inr ⟨h0',b,c,d,e,hp f⟩)
structure Zb1 (s : St) : Prop where
 len : s.ths.length ≤ 64
 rd : ∃ x,Xa s.recs s.recs.length = some x ∧ ∀ (i : Nat) (t : Th),s.ths[i]? = some t → Ks t (Zk x.at_ i)
theorem Znl {l : List Th} (h : l[i]? = some t) : i < l.length := by
 rcases Yed i l.length with a | a
 ·exact a
 ·rw [Yd6 a] at h; cases h
theorem Zb1.same (h : Zb1 s) (ht : s.ths[i]? = some t) (hs : s'.ths = s.ths.set i t') (hr : s'.recs = s.recs) (hl : ∀ o,Ks t o → Ks t' o) : Zb1 s' := by
 obtain ⟨x,h1,h2⟩ := h.rd
 refine ⟨by rw [hs,Yd9]; exact h.len,x,by rw [hr]; exact h1,fun j u hj => ?_⟩
 rw [hs] at hj
 rcases Jf hj with ⟨rfl,rfl⟩ | ⟨_,hj'⟩
 ·exact hl _ (h2 _ _ ht)
 ·exact h2 j u hj'
theorem Zb1.more (h : Zb1 s) (ht : s.ths[i]? = some t) (hs : s'.ths = s.ths.set i t') {r : Rec} (hr : s'.recs = s.recs ++ [r]) (ho : 0 ≤ r.o) (hi : r.t = (i : Int)) (hl : ∀ x pl,Ks t (Zk x.at_ i) → ∃ k c,(if r.a = 1 then Zbd x r pl else Zab x r pl) = some ⟨Yn x.at_ r.t (r,k),c⟩ ∧ Ks t' (some (r,k))) : Zb1 s' := by
 obtain ⟨x,h1,h2⟩ := h.rd
 have hil := Znl ht
 have hlen := h.len
 obtain ⟨k,c,g1,g2⟩ := hl x s.recs.length (h2 i t ht)
 have hrd : Zck x r s.recs.length = some ⟨Yn x.at_ r.t (r,k),c⟩ := by
  unfold Zck
  rw [if_neg (by omega),if_neg (by omega)]
  exact g1
 refine ⟨by rw [hs,Yd9]; exact h.len,_,by rw [hr,Zfc,h1]; exact hrd,fun j u hj => ?_⟩
 rw [hs] at hj
 show Ks u (Zk (Yn x.at_ r.t (r,k)) j)
 rw [Yv,hi]
 rcases Jf hj with ⟨rfl,rfl⟩ | ⟨hne,hj'⟩
 ·rw [if_pos rfl]; exact g2
 ·rw [if_neg (by omega)]; exact h2 j u hj'
theorem Zb1.evict (h : Zb1 s) (ht : s.ths[i]? = some t) (hs : s'.ths = s.ths.set i t') {c : Com} (hc : c.d = 4) (hr : s'.recs = s.recs ++ [⟨i,-1,2,c,0⟩]) (hl : ∀ o,Ks t o → Ks t' o) : Zb1 s' := by
 obtain ⟨x,h1,h2⟩ := h.rd
 have hil := Znl ht
 have hlen := h.len
 have hrd : Zck x ⟨i,-1,2,c,0⟩ s.recs.length = some x := by
  unfold Zck
  rw [if_neg (by simp only; omega),if_pos (by show (-1 : Int) < 0; decide),if_pos]
  unfold Zf0
  simp [hc]
 refine ⟨by rw [hs,Yd9]; exact h.len,x,by rw [hr,Zfc,h1]; exact hrd,fun j u hj => ?_⟩
 rw [hs] at hj
 rcases Jf hj with ⟨rfl,rfl⟩ | ⟨_,hj'⟩
 ·exact hl _ (h2 _ _ ht)
 ·exact h2 j u hj'
theorem V6 {c : Com} (hp : t.ph = 4) (he : t.err = 0) (hd : c.d = t.com.d) (hk : c.k = t.com.k) (h1 : t'.ph = 5) (h2 : t'.op = t.op) (h3 : t'.com = c) (h4 : t'.err = t.err) : ∀ x pl,Ks t (Zk x.at_ i) → ∃ k cc,(if (2 : Int) = 1 then Zbd x ⟨i,t.op,2,c,0⟩ pl else Zab x ⟨i,t.op,2,c,0⟩ pl) = some ⟨Yn x.at_ i ((⟨i,t.op,2,c,0⟩ : Rec),k),cc⟩ ∧ Ks t' (some ((⟨i,t.op,2,c,0⟩ : Rec),k)) := by
 intro x pl hl
 have hnp : ¬ Zu t := by unfold Zu; omega
 cases ha : Zk x.at_ i with
 | none => rw [ha] at hl; have := hl.1; omega
 | some p =>
  rw [ha] at hl
  obtain ⟨last,k⟩ := p
  rcases hl with ⟨a,_⟩ | ⟨a,b,c1,d,e,f⟩ | ⟨_,_,_,_,_,f⟩
  ·omega
  ·refine ⟨k,x.calls.modify k (fun c => { c with a := pl }),?_,.inr (.inr ⟨by omega,rfl,by rw [h2],by rw [h3],by rw [h4]; exact he,by unfold Zu; omega⟩)⟩
   rw [if_neg (by decide)]
   unfold Zab
   simp only [ha]
   simp only at b c1 d e
   rw [if_neg (by rw [b,c1,d,e,hd,hk]; simp),if_pos trivial,if_pos ⟨b,trivial⟩]
  ·exact absurd f hnp
theorem Zb1.step (A : X7 N ps s) (h : Zb1 s) (ht : s.ths[i]? = some t) (tr : Tr s i t s') : Zb1 s' := by
 have T := A.th i t ht
 cases tr with
 | done => exact h
 | wait3 => exact h
 | wait9 => exact h
 | wait12 => exact h
 | beg hp o ho ph er hb =>
  unfold Zhu at hb
  refine h.more (t':={ t with com := Yz o,err := er,ph := ph }) (r:=⟨i,t.op,1,Yz o,0⟩) ht rfl rfl (by simp only; omega) rfl (fun x pl hl => ?_)
  refine ⟨x.calls.length,x.calls ++ [⟨i,t.op,pl,-1,-1⟩],?_,.inr (.inl ⟨by show ph ≠ 0; omega,rfl,rfl,rfl,rfl,by show ph ≠ 5; omega,by show ph ≠ 6; omega,by show ph ≠ 7; omega⟩)⟩
  rw [if_pos rfl]
  unfold Zbd
  cases ha : Zk x.at_ i with
  | none =>
   rw [ha] at hl
   have h0 := hl.2
   simp [h0]
  | some p =>
   rw [ha] at hl
   rcases hl with ⟨a,b,c⟩ | ⟨a,_⟩ | ⟨a,_⟩
   ·simp [b,c]
   ·exact absurd hp a
   ·exact absurd hp a
 | full hp hf => exact h.same (t':={ t with ph := 2 }) ht rfl rfl (fun o hl => Yp hl (by omega) (by simp) rfl rfl rfl (by simp) (by unfold Zu; first | (intro _; simp; done) | (simp only; omega) | omega))
 | reserve hp hf => exact h.same (t':={ t with ph := 3 }) ht rfl rfl (fun o hl => Yp hl (by omega) (by simp) rfl rfl rfl (by simp) (by unfold Zu; first | (intro _; simp; done) | (simp only; omega) | omega))
 | back1 hp hl => exact h.same (t':={ t with ph := 1 }) ht rfl rfl (fun o hl => Yp hl (by omega) (by simp) rfl rfl rfl (by simp) (by unfold Zu; first | (intro _; simp; done) | (simp only; omega) | omega))
 | back16 hp hl => exact h.same (t':={ t with ph := 16 }) ht rfl rfl (fun o hl => Yp hl (by omega) (by simp) rfl rfl rfl (by simp) (by unfold Zu; first | (intro _; simp; done) | (simp only; omega) | omega))
 | drain b hp hl => exact h.same (t':={ t with back := b,ph := 10 }) ht rfl rfl (fun o hl => Yp hl (by omega) (by simp) rfl rfl rfl (by simp) (by unfold Zu; simp only; omega))
 | lock3 hp hl => exact h.same (t':={ t with ph := 4 }) ht rfl rfl (fun o hl => Yp hl (by omega) (by simp) rfl rfl rfl (by simp) (by unfold Zu; first | (intro _; simp; done) | (simp only; omega) | omega))
 | lock12 hp hl => exact h.same (t':={ t with ph := 13 }) ht rfl rfl (fun o hl => Yp hl (by omega) (by simp) rfl rfl rfl (by simp) (by unfold Zu; first | (intro _; simp; done) | (simp only; omega) | omega))
 | get hp o ho hd c hc => exact h.more (t':={ t with com := c,node := ((Zk s.sh.ent o.k).map (·.n)).getD 0,ph := 5 }) (r:=⟨i,t.op,2,c,0⟩) ht rfl rfl (by simp only; omega) rfl (V6 hp (by rcases T.err (by omega) with a | a; exact a; omega) (by rw [hc]) (by rw [hc]) rfl rfl rfl rfl)
 | putOld hp o ho hd e he => exact h.more (t':={ t with ph := 5 }) (r:=⟨i,t.op,2,t.com,0⟩) ht rfl rfl (by simp only; omega) rfl (V6 hp (by rcases T.err (by omega) with a | a; exact a; omega) rfl rfl rfl rfl rfl rfl)
 | putNew hp o ho hd he => exact h.more (t':={ t with ph := 5 }) (r:=⟨i,t.op,2,t.com,0⟩) ht rfl rfl (by simp only; omega) rfl (V6 hp (by rcases T.err (by omega) with a | a; exact a; omega) rfl rfl rfl rfl rfl rfl)
 | delHit hp o ho hd e he c hc => exact h.more (t':={ t with com := c,ph := 5 }) (r:=⟨i,t.op,2,c,0⟩) ht rfl rfl (by simp only; omega) rfl (V6 hp (by rcases T.err (by omega) with a | a; exact a; omega) (by rw [hc]) (by rw [hc]) rfl rfl rfl rfl)
 | delMiss hp o ho hd he c hc => exact h.more (t':={ t with com := c,ph := 5 }) (r:=⟨i,t.op,2,c,0⟩) ht rfl rfl (by simp only; omega) rfl (V6 hp (by rcases T.err (by omega) with a | a; exact a; omega) (by rw [hc]) (by rw [hc]) rfl rfl rfl rfl)
 | unlock hp ph hu =>
  have hph : ph = 7 ∨ ph = 16 ∨ ph = 6 := by unfold Zp8 at hu; rcases hu with ⟨a,_⟩ | ⟨a,_⟩ | ⟨a,b,_⟩ <;> omega
  exact h.same (t':={ t with ph := ph }) ht rfl rfl (fun o hl => Yp hl (by omega) (by show ph ≠ 0; omega) rfl rfl rfl (fun x => absurd hp x.1) (by unfold Zu; simp only; omega))
 | offer hp r hr hq => exact h.same (t':={ t with ph := 16 }) ht rfl rfl (fun o hl => Yp hl (by omega) (by simp) rfl rfl rfl (by simp) (by unfold Zu; first | (intro _; simp; done) | (simp only; omega) | omega))
 | lost hp => exact h.same (t':={ t with ph := 8 }) ht rfl rfl (fun o hl => Yp hl (by omega) (by simp) rfl rfl rfl (by simp) (by unfold Zu; first | (intro _; simp; done) | (simp only; omega) | omega))
 | mark hp => exact h.same (t':={ t with ph := 8 }) ht rfl rfl (fun o hl => Yp hl (by omega) (by simp) rfl rfl rfl (by simp) (by unfold Zu; first | (intro _; simp; done) | (simp only; omega) | omega))
 | ans hp =>
  refine h.more (t':={ t with op := t.op + 1,ph := 0 }) (r:=⟨i,t.op,3,t.com,t.err⟩) ht rfl rfl (by simp only; omega) rfl (fun x pl hl => ?_)
  cases ha : Zk x.at_ i with
  | none => rw [ha] at hl; have := hl.1; omega
  | some p =>
   rw [ha] at hl
   obtain ⟨last,k⟩ := p
   refine ⟨k,x.calls.modify k (fun c => { c with r := pl }),?_,.inl ⟨rfl,rfl,by simp⟩⟩
   rw [if_neg (show ¬ ((3 : Int) = 1) by decide)]
   unfold Zab
   simp only [ha]
   rcases hl with ⟨a,_⟩ | ⟨a,b,c1,d,e,f⟩ | ⟨_,b,c1,d,e,f⟩
   ·omega
   ·simp only at b c1 d e
    rw [if_neg (by rw [b,c1,d,e]; simp),if_neg (show ¬ ((3 : Int) = 2) by decide),if_pos trivial,if_pos (.inl b)]
   ·simp only at b c1 d
    rw [if_neg (by rw [b,c1,d]; simp),if_neg (show ¬ ((3 : Int) = 2) by decide),if_pos trivial,if_pos (.inr ⟨d.symm,e⟩)]
 | reads0 hp hr => exact h.same (t':={ t with ph := 11 }) ht rfl rfl (fun o hl => Yp hl (by omega) (by simp) rfl rfl rfl (by simp) (by unfold Zu; simp only; omega))
 | reads1 hp v hr => exact ⟨h.len,h.rd⟩
 | writes0 hp hq => exact h.same (t':={ t with ph := 15 }) ht rfl rfl (fun o hl => Yp hl (by omega) (by simp) rfl rfl rfl (by simp) (by unfold Zu; simp only; omega))
 | writes1 hp e q hq ph hn =>
  have hph : ph = 11 ∨ ph = 12 := by unfold Jn at hn; rcases hn with ⟨_,a⟩ | ⟨_,a⟩ <;> omega
  exact h.same (t':={ t with vic := (s.pol.step e).2,ph := ph }) ht rfl rfl (fun o hl => Yp hl (by omega) (by show ph ≠ 0; omega) rfl rfl rfl (fun _ => ⟨by show ph ≠ 5; omega,by show ph ≠ 6; omega,by show ph ≠ 7; omega⟩) (by unfold Zu; simp only; omega))
 | evict0 hp hk => exact h.same (t':={ t with ph := 14 }) ht rfl rfl (fun o hl => Yp hl (by omega) (by simp) rfl rfl rfl (by simp) (by unfold Zu; simp only; omega))
 | evict1 hp k hk e he => exact h.evict (t':={ t with ph := 14 }) ht rfl (c:=⟨4,e.k,e.v,true⟩) rfl rfl (fun o hl => Yp hl (by omega) (by simp) rfl rfl rfl (by simp) (by unfold Zu; simp only; omega))
 | release hp ph hn =>
  have hph : ph = 11 ∨ ph = 12 := by unfold Jn at hn; rcases hn with ⟨_,a⟩ | ⟨_,a⟩ <;> omega
  exact h.same (t':={ t with vic := t.vic.drop 1,ph := ph }) ht rfl rfl (fun o hl => Yp hl (by omega) (by show ph ≠ 0; omega) rfl rfl rfl (fun _ => ⟨by show ph ≠ 5; omega,by show ph ≠ 6; omega,by show ph ≠ 7; omega⟩) (by unfold Zu; simp only; omega))
 | again hp hc => exact h.same (t':={ t with ph := 10 }) ht rfl rfl (fun o hl => Yp hl (by omega) (by simp) rfl rfl rfl (by simp) (by unfold Zu; simp only; omega))
 | finish hp hc =>
  have hb := T.back
  have hb1 := T.back1 (by omega)
  exact h.same (t':={ t with ph := t.back }) ht rfl rfl (fun o hl => Yp hl (by omega) hb1 rfl rfl rfl (fun _ => ⟨by show t.back ≠ 5; omega,by show t.back ≠ 6; omega,by show t.back ≠ 7; omega⟩) (by unfold Zu; simp only; omega))
end Go.Proofs.YtdkhbegheognnaaGreatDoor.W

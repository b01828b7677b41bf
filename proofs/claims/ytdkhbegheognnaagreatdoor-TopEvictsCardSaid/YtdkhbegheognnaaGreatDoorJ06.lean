/- Part of the proof of TopEvicts, joined by a program of the session: Rw Cli Po Pod. -/
import Derived.Test.YtdkhbegheognnaaGreatDoorJ05
import Derived.Test.YtdkhbegheognnaaGreatDoorJ01
import Derived.Test.YtdkhbegheognnaaGreatDoorJ03
import Derived.Deep.LoopGhost
import Derived.Deep.RegionWith
namespace Go.Proofs.YtdkhbegheognnaaGreatDoor.W
open Go.RowKit Go.Maps
open _root_.Go.Proofs.Tryz renaming prog → Ydz, results106 → Yeh, ntmps106 → Yej, func106 → Yek, ntmps113 → Yep, underlying60 → Yeq, func113 → Yes
open _root_.Int renaming tdiv_eq_ediv_of_nonneg → Yd0, tmod_eq_emod_of_nonneg → Yee, neg_neg → Yen, neg_tdiv → Yer, lt_or_le → Yev, le_refl → Yex
open Zb renaming trans → Yd1, setCell → Yd3, refl → Yd5, alloc → Yd7, drewN → Yd8, drew → Yec, no → Yed
open _root_.Nat renaming le_refl → Yd2
open _root_.List renaming mem_cons_self → Yd4, mem_map → Yd6, map_append → Yea, mem_append_right → Yeb, mem_cons_of_mem → Yef, map_cons → Yei, mem_append_left → Yel, filter_eq_self → Yem, mem_cons → Yeo, drop_succ_cons → Yet, take_succ_cons → Yeu, length_append → Yew
open Ext renaming refl → Yd9
open Sm renaming drewN → Yeg
set_option maxHeartbeats 4000000
set_option maxRecDepth 100000
variable {k x j : Nat}
variable {own own' : Nat → Nat}
variable {w w' : World}
variable {r : Rw}
variable {S : Nat → Prop}
variable {id v most : Int}
variable {l rest : List Nw}
variable {bs : Nat → List Nd}
variable {d : Dq}
variable {t : Nd}
variable {A B : List Nd}
variable {p : Pol}
def Qc (bs : Nat → List Nd) : Rw := ⟨(bs 0).map (·.2),(bs 1).map (·.2),(bs 2).map (·.2)⟩
theorem Yl (bs : Nat → List Nd) (hk : k < 3) : (Qc bs).get k = (bs k).map (·.2) := by
 have : k = 0 ∨ k = 1 ∨ k = 2 := by omega
 rcases this with rfl | rfl | rfl <;> rfl
structure X8 (own : Nat → Nat) (w : World) (x : Nat) (r : Rw) : Prop where
 ex : ∃ d bs,Vg own w x d bs ∧ r = Qc bs
theorem X8.kept (h : X8 own w x r) (he : Ext w own own') (ho : Zb S w w') (hS : ∀ b,b < w.heap.size → 30 ≤ own b → own b < 37 → ¬ S b) : X8 own' w' x r := by
 obtain ⟨d,bs,hd,hr⟩ := h.ex
 exact ⟨d,bs,hd.kept he ho hS,hr⟩
theorem Zw2 (l : List Nd) : Xq (l.map (·.2)) = Xy l := by
 induction l with
 | nil => rfl
 | cons t r ih => show t.2.2 + Xq _ = t.2.2 + Xy r; rw [ih]
theorem Ze9 (h : Qd id l = some v) : (id,v) ∈ l := by
 induction l with
 | nil => simp [Qd] at h
 | cons t r ih =>
  rw [Qd] at h
  split at h
  ·rename_i e; cases h; subst e; exact Yd4
  ·exact Yef _ (ih h)
theorem Ze0 (h : r.of id = some (k,v)) : k < 3 ∧ (id,v) ∈ r.get k := by
 unfold Rw.of at h
 split at h
 ·rename_i u e; cases h; exact ⟨by omega,Ze9 e⟩
 ·split at h
  ·rename_i u e; cases h; exact ⟨by omega,Ze9 e⟩
  ·split at h
   ·rename_i u e; cases h; exact ⟨by omega,Ze9 e⟩
   ·cases h
theorem Zeg (h : (Qc bs).of id = some (k,v)) : k < 3 ∧ ∃ t A B,bs k = A ++ t :: B ∧ t.2.1 = id ∧ t.2.2 = v := by
 obtain ⟨hk,hm⟩ := Ze0 h
 rw [Yl bs hk] at hm
 obtain ⟨t,ht,e⟩ := Yd6.1 hm
 obtain ⟨A,B,hAB⟩ := List.append_of_mem ht
 exact ⟨hk,t,A,B,hAB,by rw [e],by rw [e]⟩
theorem Vg.uniq (h : Vg own w x d bs) (hj : j < 3) (hk : k < 3) {s : Nd} (ht : t ∈ bs j) (hs : s ∈ bs k) (e : t.2.1 = s.2.1) : j = k ∧ t.1 = s.1 := by
 have h1 := h.has j hj t ht
 have h2 := h.has k hk s hs
 rw [e,h2] at h1
 have e1 : s.1 = t.1 := by
  have := Option.some.inj h1
  simp only [P0,Value.pointer.injEq,Option.some.injEq,Addr.mk.injEq,and_true] at this
  exact this
 refine ⟨?_,e1.symm⟩
 rcases Nat.decEq j k with hn | he
 ·exact absurd e1.symm (h.core.apart j k hj hk hn t ht s hs)
 ·exact he
theorem Vg.others (h : Vg own w x d bs) (hk : k < 3) (hbs : bs k = A ++ t :: B) :
  (∀ s ∈ A ++ B,s.2.1 ≠ t.2.1) ∧ ∀ j,j < 3 → j ≠ k → ∀ s ∈ bs j,s.2.1 ≠ t.2.1 := by
 have ht : t ∈ bs k := by rw [hbs]; exact Yeb _ Yd4
 refine ⟨fun s hs e => ?_,fun j hj hjk s hs e => hjk (h.uniq hj hk hs ht e).1⟩
 have hsk : s ∈ bs k := by
  rw [hbs]
  rcases List.mem_append.1 hs with a | a
  ·exact Yel _ a
  ·exact Yeb _ (Yef _ a)
 have e1 := (h.uniq hk hk hsk ht e).2
 have hn : (Xi A ++ t.1 :: Xi B).Nodup := by
  have := h.core.nodup k hk
  rw [hbs,Yea,Yei] at this
  exact this
 refine Zcs hn ?_
 rw [← e1]
 show s.1 ∈ List.map _ A ++ List.map _ B
 rw [← Yea]
 exact Yd6.2 ⟨s,hs,rfl⟩
theorem Zfa {l : List Nd} (h : ∀ s ∈ l,s.2.1 ≠ id) : Va id (l.map (·.2)) = l.map (·.2) := by
 unfold Va
 rw [Yem]
 intro a ha
 obtain ⟨s,hs,rfl⟩ := Yd6.1 ha
 simpa using h s hs
theorem Zwz (h : ∀ s ∈ A ++ B,s.2.1 ≠ t.2.1) : Va t.2.1 ((A ++ t :: B).map (·.2)) = (A ++ B).map (·.2) := by
 have hA := Zfa (id:=t.2.1) (l:=A) (fun s hs => h s (Yel _ hs))
 have hB := Zfa (id:=t.2.1) (l:=B) (fun s hs => h s (Yeb _ hs))
 unfold Va at *
 rw [Yea,Yei,List.filter_append,List.filter_cons,hA,hB]
 simp
theorem Zcm {a b : Rw} (h : ∀ k,k < 3 → a.get k = b.get k) : a = b := by
 obtain ⟨a0,a1,a2⟩ := a
 obtain ⟨b0,b1,b2⟩ := b
 have h0 := h 0 (by omega)
 have h1 := h 1 (by omega)
 have h2 := h 2 (by omega)
 simp only [Rw.get] at h0 h1 h2
 rw [h0,h1,h2]
theorem Zf6 (r : Rw) (id : Int) (hk : k < 3) : (r.out id).get k = Va id (r.get k) := by
 have : k = 0 ∨ k = 1 ∨ k = 2 := by omega
 rcases this with rfl | rfl | rfl <;> rfl
theorem Zvw (r : Rw) (id v : Int) (hk : k < 3) : (r.re id v).get k = wre id v (r.get k) := by
 have : k = 0 ∨ k = 1 ∨ k = 2 := by omega
 rcases this with rfl | rfl | rfl <;> rfl
theorem Zj6 (r : Rw) (hk : k < 3) (hj : j < 3) (l : List Nw) : (r.set k l).get j = if j = k then l else r.get j := by
 have h1 : k = 0 ∨ k = 1 ∨ k = 2 := by omega
 have h2 : j = 0 ∨ j = 1 ∨ j = 2 := by omega
 rcases h1 with rfl | rfl | rfl <;> rcases h2 with rfl | rfl | rfl <;> rfl
theorem V0 (r : Rw) (hk : k < 3) (hj : j < 3) (t : Nw) : (r.push k t).get j = if j = k then r.get k ++ [t] else r.get j := Zj6 r hk hj _
theorem Zdp (h : Vg own w x d bs) (hk : k < 3) (hbs : bs k = A ++ t :: B) : Qc (Xc bs k (A ++ B)) = (Qc bs).out t.2.1 := by
 obtain ⟨h1,h2⟩ := h.others hk hbs
 refine Zcm fun j hj => ?_
 rw [Yl _ hj,Zf6 _ _ hj,Yl _ hj]
 by_cases e : j = k
 ·subst e; rw [Zp,hbs,Zwz h1]
 ·rw [Zr e,Zfa (h2 j hj e)]
theorem Zfs (bs : Nat → List Nd) (hk : k < 3) (t : Nd) : Qc (Xc bs k (bs k ++ [t])) = (Qc bs).push k t.2 := by
 refine Zcm fun j hj => ?_
 rw [Yl _ hj,V0 _ hk hj,Yl _ hj,Yl _ hk]
 by_cases e : j = k
 ·subst e; rw [Zp,if_pos rfl,Yea]; rfl
 ·rw [Zr e,if_neg e]
theorem Zhn {l : List Nd} (h : ∀ s ∈ l,s.2.1 ≠ id) : wre id v (l.map (·.2)) = l.map (·.2) := by
 unfold wre
 rw [List.map_map]
 apply List.map_congr_left
 intro s hs
 show (if s.2.1 = id then (s.2.1,v) else s.2) = s.2
 rw [if_neg (h s hs)]
theorem Zzk (h : ∀ s ∈ A ++ B,s.2.1 ≠ t.2.1) : wre t.2.1 v ((A ++ t :: B).map (·.2)) = (A ++ (t.1,t.2.1,v) :: B).map (·.2) := by
 have hA := Zhn (id:=t.2.1) (v:=v) (l:=A) (fun s hs => h s (Yel _ hs))
 have hB := Zhn (id:=t.2.1) (v:=v) (l:=B) (fun s hs => h s (Yeb _ hs))
 unfold wre at *
 rw [Yea,Yei,Yea,Yei,hA,hB,if_pos rfl,Yea,Yei]
theorem Zry (h : Vg own w x d bs) (hk : k < 3) (hbs : bs k = A ++ t :: B) (v : Int) : Qc (Xc bs k (A ++ (t.1,t.2.1,v) :: B)) = (Qc bs).re t.2.1 v := by
 obtain ⟨h1,h2⟩ := h.others hk hbs
 refine Zcm fun j hj => ?_
 rw [Yl _ hj,Zvw _ _ _ hj,Yl _ hj]
 by_cases e : j = k
 ·subst e; rw [Zp,hbs,Zzk h1]
 ·rw [Zr e,Zhn (h2 j hj e)]
theorem Za1 (bs : Nat → List Nd) : tot bs = (Qc bs).count := by simp [tot,Qc,Rw.count]
theorem Zel (h : X8 own w x r) (hk : k < 3) : Calls Ydz 158 #[.pointer (some ⟨x,0,none⟩),.int .i64 (k : Int)] w fun e w' => e = .returned (.int .i64 (Xq (r.get k))) ∧ w = w' := by
 obtain ⟨d,bs,hd,rfl⟩ := h.ex
 rw [Yl _ hk,Zw2]
 exact Zt4 hd hk
theorem Ycz (h : X8 own w x r) (hk : k < 3) : Calls Ydz 161 #[.pointer (some ⟨x,0,none⟩),.int .i64 (k : Int)] w fun e w' => e = .returned (.int .i64 ((r.get k).length : Int)) ∧ w = w' := by
 obtain ⟨d,bs,hd,rfl⟩ := h.ex
 rw [Yl _ hk,List.length_map]
 exact Ych hd hk
theorem Zf8 (h : X8 own w x r) (hk : k < 3) : Calls Ydz 159 #[.pointer (some ⟨x,0,none⟩),.int .i64 (k : Int)] w fun e w' => e = .returned (.int .i64 (Yi (r.get k))) ∧ w = w' := by
 obtain ⟨d,bs,hd,rfl⟩ := h.ex
 have := Zxo hd hk
 rw [Yl _ hk]
 have e : Yi ((bs k).map (·.2)) = Zo7 (bs k) := by cases bs k <;> rfl
 rw [e]
 exact this
theorem Ybc (h : X8 own w x r) (hk : k < 3) : Calls Ydz 160 #[.pointer (some ⟨x,0,none⟩),.int .i64 (k : Int)] w fun e w' => e = .returned (.int .i64 (Jm (r.get k))) ∧ w = w' := by
 obtain ⟨d,bs,hd,rfl⟩ := h.ex
 have := Yad hd hk
 rw [Yl _ hk]
 have e : Jm ((bs k).map (·.2)) = Zji (bs k) := by
  unfold Jm Zji
  rw [List.getLast?_map]
  cases (bs k).getLast? <;> rfl
 rw [e]
 exact this
theorem Ydt (h : X8 own w x r) (hof : r.of id = some (k,v)) : Calls Ydz 114 #[.pointer (some ⟨x,0,none⟩),.int .i64 id] w fun e w' => e = .returned (.tuple #[.int .i64 (k : Int),.int .i64 v]) ∧ ∃ nq,w' = w.drewN nq := by
 obtain ⟨d,bs,hd,rfl⟩ := h.ex
 obtain ⟨hk,t,A,B,hbs,rfl,rfl⟩ := Zeg hof
 exact Ydi hd hk (by rw [hbs]; exact Yeb _ Yd4)
abbrev DqL (own : Nat → Nat) : Nat → Prop := Own own 30 37
def RwQ (own : Nat → Nat) (w : World) (x : Nat) (r : Rw) (e : Ending) (w' : World) : Prop := e = .returned (.int .i64 0) ∧ ∃ own',Ext w own own' ∧ X8 own' w' x r ∧ Zb (DqL own) w w'
theorem Ybd (h : X8 own w x r) (hk : k < 3) (hnew : r.of id = none) (hid : 1 ≤ id ∧ id ≤ 65536) (hv : 0 ≤ v ∧ v ≤ 2147483648) (hc : r.count ≤ 400) :
  Calls Ydz 64 #[.pointer (some ⟨x,0,none⟩),.int .i64 (k : Int),.int .i64 id,.int .i64 v] w (RwQ own w x (r.push k (id,v))) := by
 obtain ⟨d,bs,hd,rfl⟩ := h.ex
 have hw : ∀ (l : List Nw),Qd id l = none → ∀ s ∈ l,s.1 ≠ id := by
  intro l
  induction l with
  | nil => intro _ s hs; cases hs
  | cons t r ih =>
   intro hn s hs
   rw [Qd] at hn
   split at hn
   ·cases hn
   ·rename_i hne
    rcases Yeo.1 hs with e | e
    ·subst e; exact hne
    ·exact ih hn s e
 have hnn : ∀ j,j < 3 → Qd id ((Qc bs).get j) = none := by
  intro j hj
  unfold Rw.of at hnew
  split at hnew
  ·cases hnew
  ·split at hnew
   ·cases hnew
   ·split at hnew
    ·cases hnew
    ·rename_i e0 _ e1 _ e2
     have : j = 0 ∨ j = 1 ∨ j = 2 := by omega
     rcases this with rfl | rfl | rfl
     ·exact e0
     ·exact e1
     ·exact e2
 refine (Yaf hd hk (id:=id) (v:=v) (fun j hj t ht => ?_) hid hv (by rw [Za1]; exact hc)).mono ?_
 ·have := hw _ (hnn j hj) t.2 (by rw [Yl _ hj]; exact Yd6.2 ⟨t,ht,rfl⟩)
  exact this
 ·rintro e w' ⟨rfl,own',d',h1,h2,h3⟩
  exact ⟨rfl,own',h1,⟨d',_,h2,(Zfs bs hk (w.heap.size,id,v)).symm⟩,h3⟩
theorem Zv8 (h : X8 own w x r) (hof : r.of id = some (k,v)) (hc : r.count ≤ 400) :
  Calls Ydz 116 #[.pointer (some ⟨x,0,none⟩),.int .i64 id] w (RwQ own w x (r.out id)) := by
 obtain ⟨d,bs,hd,rfl⟩ := h.ex
 obtain ⟨hk,t,A,B,hbs,rfl,rfl⟩ := Zeg hof
 refine (Zt3 hd hk hbs (by rw [Za1]; exact hc)).mono ?_
 rintro e w' ⟨rfl,d',h2,h3⟩
 exact ⟨rfl,own,Yd9 _ _,⟨d',_,h2,(Zdp hd hk hbs).symm⟩,h3⟩
theorem Zv7 (h : X8 own w x r) {i : Nat} (hof : r.of id = some (k,v)) (hi : i < 3) (hc : r.count ≤ 400) :
  Calls Ydz 115 #[.pointer (some ⟨x,0,none⟩),.int .i64 id,.int .i64 (i : Int)] w (RwQ own w x ((r.out id).push i (id,v))) := by
 obtain ⟨d,bs,hd,rfl⟩ := h.ex
 obtain ⟨hk,t,A,B,hbs,rfl,rfl⟩ := Zeg hof
 refine (Yae hd hk hi hbs (by rw [Za1]; exact hc)).mono ?_
 rintro e w' ⟨rfl,h2,h3⟩
 refine ⟨rfl,own,Yd9 _ _,⟨d,_,h2,?_⟩,h3⟩
 unfold moved
 rw [Zfs _ hi,Zdp hd hk hbs]
theorem Ydu (h : X8 own w x r) (hof : r.of id = some (k,v)) {u : Int} (hu : 0 ≤ u ∧ u ≤ 2147483648) (hc : r.count ≤ 400) :
  Calls Ydz 66 #[.pointer (some ⟨x,0,none⟩),.int .i64 id,.int .i64 u] w (RwQ own w x (r.re id u)) := by
 obtain ⟨d,bs,hd,rfl⟩ := h.ex
 obtain ⟨hk,t,A,B,hbs,rfl,rfl⟩ := Zeg hof
 refine (Zqq hd hk hbs hu (by rw [Za1]; exact hc)).mono ?_
 rintro e w' ⟨rfl,h2,h3⟩
 exact ⟨rfl,own,Yd9 _ _,⟨d,_,h2,(Zry hd hk hbs u).symm⟩,h3⟩
theorem X8.fine (h : X8 own w x r) (hk : k < 3) {t : Nw} (ht : t ∈ r.get k) : (1 ≤ t.1 ∧ t.1 ≤ 65536) ∧ (0 ≤ t.2 ∧ t.2 ≤ 2147483648) := by
 obtain ⟨d,bs,hd,rfl⟩ := h.ex
 rw [Yl _ hk] at ht
 obtain ⟨s,hs,rfl⟩ := Yd6.1 ht
 exact hd.core.fine k hk s hs
theorem Zxz {l : List Nd} (h : (l.map (·.1)).Nodup) {s : Nd} (hs : s ∈ l) (ht : t ∈ l) (e : s.1 = t.1) : s = t := by
 induction l with
 | nil => cases hs
 | cons a r ih =>
  obtain ⟨h1,h2⟩ := List.nodup_cons.1 h
  rcases Yeo.1 hs with a1 | a1 <;> rcases Yeo.1 ht with a2 | a2
  ·rw [a1,a2]
  ·subst a1; exact absurd (Yd6.2 ⟨t,a2,e.symm⟩) h1
  ·subst a2; exact absurd (Yd6.2 ⟨s,a1,e⟩) h1
  ·exact ih h2 a1 a2
theorem Zor (h : ∀ s ∈ l,s.1 ≠ id) : Qd id l = none := by
 induction l with
 | nil => rfl
 | cons t r ih => rw [Qd,if_neg (h t Yd4)]; exact ih fun s hs => h s (Yef _ hs)
theorem Zos (h : (id,v) ∈ l) (hu : ∀ s ∈ l,s.1 = id → s.2 = v) : Qd id l = some v := by
 induction l with
 | nil => cases h
 | cons t r ih =>
  rw [Qd]
  by_cases e : t.1 = id
  ·rw [if_pos e,hu t Yd4 e]
  ·rw [if_neg e]
   rcases Yeo.1 h with a | a
   ·subst a; exact absurd rfl e
   ·exact ih a fun s hs => hu s (Yef _ hs)
theorem X8.of_get (h : X8 own w x r) (hk : k < 3) {t : Nw} (ht : t ∈ r.get k) : r.of t.1 = some (k,t.2) := by
 obtain ⟨d,bs,hd,rfl⟩ := h.ex
 have key : ∀ j,j < 3 → ∀ s ∈ (Qc bs).get j,s.1 = t.1 → j = k ∧ s.2 = t.2 := by
  intro j hj s hs e
  rw [Yl _ hj] at hs
  rw [Yl _ hk] at ht
  obtain ⟨s',hs',rfl⟩ := Yd6.1 hs
  obtain ⟨t',ht',rfl⟩ := Yd6.1 ht
  obtain ⟨e1,e2⟩ := hd.uniq hj hk hs' ht' e
  subst e1
  rw [Zxz (hd.core.nodup j hk) hs' ht' e2]
  exact ⟨rfl,rfl⟩
 have hn : ∀ j,j < 3 → j ≠ k → Qd t.1 ((Qc bs).get j) = none := fun j hj hne => Zor fun s hs e => hne (key j hj s hs e).1
 have hy : Qd t.1 ((Qc bs).get k) = some t.2 := Zos ht fun s hs e => (key k hk s hs e).2
 have hkk : k = 0 ∨ k = 1 ∨ k = 2 := by omega
 unfold Rw.of
 rcases hkk with rfl | rfl | rfl
 ·have h0 : Qd t.1 (Qc bs).r0 = some t.2 := hy
  rw [h0]
 ·have h0 : Qd t.1 (Qc bs).r0 = none := hn 0 (by omega) (by omega)
  have h1 : Qd t.1 (Qc bs).r1 = some t.2 := hy
  rw [h0,h1]
 ·have h0 : Qd t.1 (Qc bs).r0 = none := hn 0 (by omega) (by omega)
  have h1 : Qd t.1 (Qc bs).r1 = none := hn 1 (by omega) (by omega)
  have h2 : Qd t.1 (Qc bs).r2 = some t.2 := hy
  rw [h0,h1,h2]
theorem Zzn {B : Int} (h : ∀ t ∈ l,0 ≤ t.2 ∧ t.2 ≤ B) : 0 ≤ Xq l ∧ Xq l ≤ B * (l.length : Int) := by
 induction l with
 | nil => exact ⟨Yex _,by simp [Xq]⟩
 | cons t r ih =>
  obtain ⟨h1,h2⟩ := h t Yd4
  obtain ⟨h3,h4⟩ := ih fun s hs => h s (Yef _ hs)
  refine ⟨by show 0 ≤ t.2 + Xq r; omega,?_⟩
  show t.2 + Xq r ≤ B * ((r.length + 1 : Nat) : Int)
  rw [show ((r.length + 1 : Nat) : Int) = (r.length : Int) + 1 from by omega,Int.mul_add,Int.mul_one]
  omega
theorem X8.sums (h : X8 own w x r) (hc : r.count ≤ 400) (hk : k < 3) : 0 ≤ Xq (r.get k) ∧ Xq (r.get k) ≤ 2147483648 * 400 := by
 obtain ⟨h1,h2⟩ := Zzn (l:=r.get k) (B:=2147483648) fun t ht => (h.fine hk ht).2
 refine ⟨h1,Int.le_trans h2 ?_⟩
 have : (r.get k).length ≤ 400 := by
  have hkk : k = 0 ∨ k = 1 ∨ k = 2 := by omega
  unfold Rw.count at hc
  rcases hkk with rfl | rfl | rfl
  ·show r.r0.length ≤ 400; omega
  ·show r.r1.length ≤ 400; omega
  ·show r.r2.length ≤ 400; omega
 omega
section
attribute [local go_sem] World.setCell_drew Zg Zf
theorem Zc3 (b j : Nat) (n lo hi : Int) (w : World) (h : w.cell? ⟨b,j,none⟩ = some (.int .i64 n)) (hf : w.frozen? ⟨b,j,none⟩ = false) (h0 : lo ≤ n) (h1 : n ≤ hi) :
  Calls Ydz 195 #[.pointer (some ⟨b,j,none⟩),.int .i64 lo,.int .i64 hi] w fun r w' => r = .returned (.tuple #[]) ∧ w.setCell ⟨b,j,none⟩ (.int .i64 n) = w' := by
 have e1 : ¬ (n < lo) := by omega
 have e2 : ¬ (hi < n) := by omega
 go_enter Tryz.func195,Tryz.ntmps195
 go_wp2
 all_goals
  go_end0
  exact ⟨rfl,rfl⟩
structure Ydg (c : Cl) : Prop where
 h0 : 0 ≤ c.hits
 h1 : c.hits ≤ 100000
 m0 : 0 ≤ c.misses
 m1 : c.misses ≤ 100000
 l0 : 0 ≤ c.last
 l1 : c.last ≤ 65536
 s0 : -1000 ≤ c.step
 s1 : c.step ≤ 1000
def clA (c : Cl) : Value := .agg #[.int .i64 c.hits,.int .i64 c.misses,.int .i64 c.last,.int .i64 c.step]
theorem Yao (c : Cl) (h : Ydg c) (w : World) : Calls Ydz 155 #[clA c] w fun e w' => e = .returned (clA c) ∧ Zb No w w' := by
 obtain ⟨a0,a1,a2,a3,a4,a5,a6,a7⟩ := h
 obtain ⟨hh,m,l,s⟩ := c
 simp only at a0 a1 a2 a3 a4 a5 a6 a7
 unfold clA
 simp only
 go_enter Tryz.func155,Tryz.ntmps155
 go_wp2_with fail
 refine (Zc3 _ _ hh _ _ _ (by go_simp) (by go_simp) (by omega) (by omega)).mono ?_
 rintro e w1 ⟨rfl,hw1⟩
 subst hw1
 go_wp2_with fail
 refine (Zc3 _ _ m _ _ _ (by go_simp) (by go_simp) (by omega) (by omega)).mono ?_
 rintro e w1 ⟨rfl,hw1⟩
 subst hw1
 go_wp2_with fail
 refine (Zc3 _ _ l _ _ _ (by go_simp) (by go_simp) (by omega) (by omega)).mono ?_
 rintro e w1 ⟨rfl,hw1⟩
 subst hw1
 go_wp2_with fail
 refine (Zc3 _ _ s _ _ _ (by go_simp) (by go_simp) (by omega) (by omega)).mono ?_
 rintro e w1 ⟨rfl,hw1⟩
 subst hw1
 go_wp2
 refine bodyPost_ret (v:=.agg #[.int .i64 hh,.int .i64 m,.int .i64 l,.int .i64 s]) (by simp [results,Tryz.results155,go_sem]) rfl ⟨rfl,?_⟩
 (repeat (first | with_reducible exact Yd5 _ _ | with_reducible refine Yec ?_ | with_reducible refine Yd8 ?_ _ | with_reducible refine Yd7 ?_ _ | ((with_reducible refine Yd3 ?_ ?_ _); rotate_left; first | exact .inl rfl | exact .inr (Yd2 _) | exact .inl (.inl rfl) | exact .inl (.inr rfl) | exact .inl (.inr (.inl rfl)) | exact .inl (.inr (.inr rfl)) | (focus (right; first | (simp; done) | (simp; omega))))))
theorem Zh8 (c : Int) (h0 : 0 ≤ c) (h1 : c ≤ 1000) (w : World) : Calls Ydz 60 #[.int .i64 c] w fun e w' => e = .returned (.int .i64 (Xl c)) ∧ w = w' := by
 have e1 : ¬ (c < 0) := by omega
 have e2 : ¬ (4611686018427387903 < c) := by omega
 go_enter Tryz.func60,Tryz.ntmps60
 go_wp2
 all_goals
  go_ret
  exact ⟨Zoa (by unfold Xl; split <;> omega),rfl⟩
theorem Zh7 (c : Int) (h0 : 0 ≤ c) (h1 : c ≤ 1000) : 1 ≤ Xl c ∧ Xl c ≤ 100 := by unfold Xl; split <;> omega
theorem Zqk (c : Int) (h0 : 0 ≤ c) (h1 : c ≤ 1000) (w : World) : Calls Ydz 33 #[.int .i64 c] w fun e w' => e = .returned (clA ⟨0,0,0,Xl c⟩) ∧ Zb No w w' := by
 have H := Ydy (Zh8 c h0 h1)
 unfold clA
 go_enter Tryz.func33,Tryz.ntmps33
 go_wp2_with fail
 refine (H.out _).mono ?_
 rintro e w' ⟨rfl,rfl⟩
 go_wp2
 refine bodyPost_ret (v:=.agg #[.int .i64 0,.int .i64 0,.int .i64 0,.int .i64 (Xl c)]) (by simp [results,Tryz.results33,go_sem]) rfl ⟨rfl,?_⟩
 (repeat (first | with_reducible exact Yd5 _ _ | with_reducible refine Yec ?_ | with_reducible refine Yd8 ?_ _ | with_reducible refine Yd7 ?_ _ | ((with_reducible refine Yd3 ?_ ?_ _); rotate_left; first | exact .inl rfl | exact .inr (Yd2 _) | exact .inl (.inl rfl) | exact .inl (.inr rfl) | exact .inl (.inr (.inl rfl)) | exact .inl (.inr (.inr rfl)) | (focus (right; first | (simp; done) | (simp; omega))))))
theorem Zx1 (n : Int) (h0 : -1000 ≤ n) (h1 : n ≤ 1000) : -10 ≤ n.tdiv 100 ∧ n.tdiv 100 ≤ 10 ∧ -99 ≤ n.tmod 100 ∧ n.tmod 100 ≤ 99 := by
 rcases Yev n 0 with h | h
 ·have e1 : n.tdiv 100 = -((-n) / 100) := by rw [← Yd0 (by omega),Yer,Yen]
  have e2 : n.tmod 100 = -((-n) % 100) := by rw [← Yee (by omega),Int.neg_tmod,Yen]
  rw [e1,e2]; omega
 ·rw [Yd0 h,Yee h]; omega
theorem Zzb (n : Int) (h0 : -10000 ≤ n) (h1 : n ≤ 10000) : -100 ≤ n.tdiv 100 ∧ n.tdiv 100 ≤ 100 := by
 rcases Yev n 0 with h | h
 ·have e1 : n.tdiv 100 = -((-n) / 100) := by rw [← Yd0 (by omega),Yer,Yen]
  rw [e1]; omega
 ·rw [Yd0 h]; omega
theorem Zbe (n : Int) (h0 : -1000 ≤ n) (h1 : n ≤ 1000) : -1000 ≤ Qw n ∧ Qw n ≤ 1000 := by
 rcases Yev n 0 with h | h
 ·have e1 : n.tdiv 100 = -((-n) / 100) := by rw [← Yd0 (by omega),Yer,Yen]
  have e2 : n.tmod 100 = -((-n) % 100) := by rw [← Yee (by omega),Int.neg_tmod,Yen]
  have e3 : (n.tmod 100 * 98).tdiv 100 = -((-n) % 100 * 98 / 100) := by
   rw [e2,Int.neg_mul,Yer,Yd0 (by omega)]
  unfold Qw; rw [e3,e1]; omega
 ·have e3 : (n.tmod 100 * 98).tdiv 100 = n % 100 * 98 / 100 := by
   rw [Yee h,Yd0 (by omega)]
  unfold Qw; rw [e3,Yd0 h]; omega
theorem Zux (n : Int) (h0 : -1000 ≤ n) (h1 : n ≤ 1000) (w : World) : Calls Ydz 157 #[.int .i64 n] w fun e w' => e = .returned (.int .i64 (Qw n)) ∧ w = w' := by
 obtain ⟨b0,b1,b2,b3⟩ := Zx1 n h0 h1
 obtain ⟨b4,b5⟩ := Zzb (n.tmod 100 * 98) (by omega) (by omega)
 go_enter Tryz.func157,Tryz.ntmps157
 go_wp2
 go_ret
 exact ⟨Zoa (by unfold Qw; rfl),rfl⟩
theorem Zne (h m l s : Int) (h0 : 0 ≤ h) (h1 : h ≤ 100000) (m0 : 0 ≤ m) (m1 : m ≤ 100000) (l0 : 0 ≤ l) (l1 : l ≤ 65536) (s0 : -1000 ≤ s) (s1 : s ≤ 1000) (w : World) :
  Calls Ydz 155 #[.agg #[.int .i64 h,.int .i64 m,.int .i64 l,.int .i64 s]] w fun e w' => e = .returned (.agg #[.int .i64 h,.int .i64 m,.int .i64 l,.int .i64 s]) ∧ Zb No w w' := Yao ⟨h,m,l,s⟩ ⟨h0,h1,m0,m1,l0,l1,s0,s1⟩ w
theorem Zqm (h m l s : Int) (h0 : 0 ≤ h) (h1 : h < 100000) (m0 : 0 ≤ m) (m1 : m ≤ 100000) (l0 : 0 ≤ l) (l1 : l ≤ 65536) (s0 : -1000 ≤ s) (s1 : s ≤ 1000) (w : World) :
  Calls Ydz 104 #[.agg #[.int .i64 h,.int .i64 m,.int .i64 l,.int .i64 s],.bool true] w fun e w' => e = .returned (.agg #[.int .i64 (h + 1),.int .i64 m,.int .i64 l,.int .i64 s]) ∧ Zb No w w' := by
 have H1 := Ydy (Zne h m l s h0 (by omega) m0 m1 l0 l1 s0 s1)
 have H2 := Ydy (Zne (h + 1) m l s (by omega) (by omega) m0 m1 l0 l1 s0 s1)
 go_enter Tryz.func104,Tryz.ntmps104
 go_wp2_with fail
 refine (H1.out _).mono ?_
 rintro e w1 ⟨rfl,ho⟩
 have k := blk ho (Zbv w _ _)
 have k' := blk ho (Kj w _ _)
 have p0 := Za (j:=0) k rfl
 have p1 := Za (j:=1) k rfl
 have p2 := Za (j:=2) k rfl
 have p3 := Za (j:=3) k rfl
 have q0 := Zc k 0
 have q1 := Zc k 1
 have q2 := Zc k 2
 have q3 := Zc k 3
 have HO := Ydy ho
 have K' := Ydy k'
 clear k k' ho
 go_wp2_with fail
 refine (H2.out _).mono ?_
 rintro e w2 ⟨rfl,ho2⟩
 have hO : Zb (fun b => b = w.heap.size) w1 w2 := by (repeat (first | with_reducible exact Yd5 _ _ | with_reducible refine Yec ?_ | with_reducible refine Yd8 ?_ _ | with_reducible refine Yd7 ?_ _ | ((with_reducible refine Yd3 ?_ ?_ _); rotate_left; first | exact .inl rfl | exact .inr (Yd2 _) | exact .inl (.inl rfl) | exact .inl (.inr rfl) | exact .inl (.inr (.inl rfl)) | exact .inl (.inr (.inr rfl)) | (focus (right; first | (simp; done) | (simp; omega)))) | with_reducible refine Yd1 ?_ (Yed ho2)))
 have k := hO.kept K'.out (by first | (simp; done) | (simp; omega))
 have u0 := Za (j:=0) k rfl
 have u1 := Za (j:=1) k rfl
 have u2 := Za (j:=2) k rfl
 have u3 := Za (j:=3) k rfl
 have v0 := Zc k 0
 have v1 := Zc k 1
 have v2 := Zc k 2
 have v3 := Zc k 3
 have hz : w.heap.size + 1 < w2.heap.size := Ze k
 have HO2 := Ydy ho2
 clear k ho2 hO
 go_wp2
 refine bodyPost_ret (v:=.agg #[.int .i64 (h + 1),.int .i64 m,.int .i64 l,.int .i64 s]) (by simp [results,Tryz.results104,go_sem,u0,u1,u2,u3]) rfl ⟨rfl,?_⟩
 (repeat (first | with_reducible exact Yd5 _ _ | with_reducible refine Yec ?_ | with_reducible refine Yd8 ?_ _ | with_reducible refine Yd7 ?_ _ | ((with_reducible refine Yd3 ?_ ?_ _); rotate_left; first | exact .inl rfl | exact .inr (Yd2 _) | exact .inl (.inl rfl) | exact .inl (.inr rfl) | exact .inl (.inr (.inl rfl)) | exact .inl (.inr (.inr rfl)) | (focus (right; first | (simp; done) | (simp; omega)))) | with_reducible refine Yd1 ?_ (Yed HO2.out) | with_reducible refine Yd1 ?_ (Yed HO.out)))
theorem Zm5 (h m l s : Int) (h0 : 0 ≤ h) (h1 : h ≤ 100000) (m0 : 0 ≤ m) (m1 : m < 100000) (l0 : 0 ≤ l) (l1 : l ≤ 65536) (s0 : -1000 ≤ s) (s1 : s ≤ 1000) (w : World) :
  Calls Ydz 104 #[.agg #[.int .i64 h,.int .i64 m,.int .i64 l,.int .i64 s],.bool false] w fun e w' => e = .returned (.agg #[.int .i64 h,.int .i64 (m + 1),.int .i64 l,.int .i64 s]) ∧ Zb No w w' := by
 have H1 := Ydy (Zne h m l s h0 h1 m0 (by omega) l0 l1 s0 s1)
 have H2 := Ydy (Zne h (m + 1) l s h0 h1 (by omega) (by omega) l0 l1 s0 s1)
 go_enter Tryz.func104,Tryz.ntmps104
 go_wp2_with fail
 refine (H1.out _).mono ?_
 rintro e w1 ⟨rfl,ho⟩
 have k := blk ho (Zbv w _ _)
 have k' := blk ho (Kj w _ _)
 have p0 := Za (j:=0) k rfl
 have p1 := Za (j:=1) k rfl
 have p2 := Za (j:=2) k rfl
 have p3 := Za (j:=3) k rfl
 have q0 := Zc k 0
 have q1 := Zc k 1
 have q2 := Zc k 2
 have q3 := Zc k 3
 have HO := Ydy ho
 have K' := Ydy k'
 clear k k' ho
 go_wp2_with fail
 refine (H2.out _).mono ?_
 rintro e w2 ⟨rfl,ho2⟩
 have hO : Zb (fun b => b = w.heap.size) w1 w2 := by (repeat (first | with_reducible exact Yd5 _ _ | with_reducible refine Yec ?_ | with_reducible refine Yd8 ?_ _ | with_reducible refine Yd7 ?_ _ | ((with_reducible refine Yd3 ?_ ?_ _); rotate_left; first | exact .inl rfl | exact .inr (Yd2 _) | exact .inl (.inl rfl) | exact .inl (.inr rfl) | exact .inl (.inr (.inl rfl)) | exact .inl (.inr (.inr rfl)) | (focus (right; first | (simp; done) | (simp; omega)))) | with_reducible refine Yd1 ?_ (Yed ho2)))
 have k := hO.kept K'.out (by first | (simp; done) | (simp; omega))
 have u0 := Za (j:=0) k rfl
 have u1 := Za (j:=1) k rfl
 have u2 := Za (j:=2) k rfl
 have u3 := Za (j:=3) k rfl
 have v0 := Zc k 0
 have v1 := Zc k 1
 have v2 := Zc k 2
 have v3 := Zc k 3
 have hz : w.heap.size + 1 < w2.heap.size := Ze k
 have HO2 := Ydy ho2
 clear k ho2 hO
 go_wp2
 refine bodyPost_ret (v:=.agg #[.int .i64 h,.int .i64 (m + 1),.int .i64 l,.int .i64 s]) (by simp [results,Tryz.results104,go_sem,u0,u1,u2,u3]) rfl ⟨rfl,?_⟩
 (repeat (first | with_reducible exact Yd5 _ _ | with_reducible refine Yec ?_ | with_reducible refine Yd8 ?_ _ | with_reducible refine Yd7 ?_ _ | ((with_reducible refine Yd3 ?_ ?_ _); rotate_left; first | exact .inl rfl | exact .inr (Yd2 _) | exact .inl (.inl rfl) | exact .inl (.inr rfl) | exact .inl (.inr (.inl rfl)) | exact .inl (.inr (.inr rfl)) | (focus (right; first | (simp; done) | (simp; omega)))) | with_reducible refine Yd1 ?_ (Yed HO2.out) | with_reducible refine Yd1 ?_ (Yed HO.out)))
theorem Zxp (h m l s p : Int) (h0 : 0 ≤ h) (h1 : h ≤ 100000) (m0 : 0 ≤ m) (m1 : m ≤ 100000) (l0 : 0 ≤ l) (l1 : l ≤ 65536) (s0 : -1000 ≤ s) (s1 : s ≤ 1000) (hp : 0 < p) (w : World) :
  Calls Ydz 105 #[.agg #[.int .i64 h,.int .i64 m,.int .i64 l,.int .i64 s],.int .i64 p] w fun e w' => e = .returned (.bool (decide (p ≤ h + m))) ∧ Zb No w w' := by
 have H1 := Ydy (Zne h m l s h0 h1 m0 m1 l0 l1 s0 s1)
 go_enter Tryz.func105,Tryz.ntmps105
 go_wp2_with fail
 refine (H1.out _).mono ?_
 rintro e w1 ⟨rfl,ho⟩
 have k : w1.heap[w.heap.size]? = some _ := blk ho (Zh w _)
 have p0 := Za (j:=0) k rfl
 have p1 := Za (j:=1) k rfl
 have p2 := Za (j:=2) k rfl
 have p3 := Za (j:=3) k rfl
 have q0 := Zc k 0
 have q1 := Zc k 1
 have q2 := Zc k 2
 have q3 := Zc k 3
 have hz : w.heap.size < w1.heap.size := Ze k
 have HO := Ydy ho
 clear k ho
 by_cases hd : p ≤ h + m
 all_goals
  go_wp2
  go_ret
  refine ⟨?_,?_⟩
  ·simp [hd]
  (repeat (first | with_reducible exact Yd5 _ _ | with_reducible refine Yec ?_ | with_reducible refine Yd8 ?_ _ | with_reducible refine Yd7 ?_ _ | ((with_reducible refine Yd3 ?_ ?_ _); rotate_left; first | exact .inl rfl | exact .inr (Yd2 _) | exact .inl (.inl rfl) | exact .inl (.inr rfl) | exact .inl (.inr (.inl rfl)) | exact .inl (.inr (.inr rfl)) | (focus (right; first | (simp; done) | (simp; omega)))) | with_reducible refine Yd1 ?_ (Yed HO.out)))
theorem Zvv (h m l s : Int) (h0 : 0 ≤ h) (h1 : h ≤ 100000) (m0 : 0 ≤ m) (m1 : m ≤ 100000) (l0 : 0 ≤ l) (l1 : l ≤ 65536) (s0 : -1000 ≤ s) (s1 : s ≤ 1000) (w : World) :
  Calls Ydz 156 #[.agg #[.int .i64 h,.int .i64 m,.int .i64 l,.int .i64 s]] w fun e w' => e = .returned (.int .i64 (Jw ⟨h,m,l,s⟩)) ∧ Zb No w w' := by
 have H1 := Ydy (Zne h m l s h0 h1 m0 m1 l0 l1 s0 s1)
 by_cases hh : h = 0
 ·subst hh
  go_enter Tryz.func156,Tryz.ntmps156
  go_wp2_with fail
  refine (H1.out _).mono ?_
  rintro e w1 ⟨rfl,ho⟩
  have k : w1.heap[w.heap.size]? = some _ := blk ho (Zh w _)
  have p0 := Za (j:=0) k rfl
  have p1 := Za (j:=1) k rfl
  have p2 := Za (j:=2) k rfl
  have p3 := Za (j:=3) k rfl
  have q0 := Zc k 0
  have q1 := Zc k 1
  have q2 := Zc k 2
  have q3 := Zc k 3
  have hz : w.heap.size < w1.heap.size := Ze k
  have HO := Ydy ho
  clear k ho
  go_wp2
  go_ret
  refine ⟨rfl,?_⟩
  (repeat (first | with_reducible exact Yd5 _ _ | with_reducible refine Yec ?_ | with_reducible refine Yd8 ?_ _ | with_reducible refine Yd7 ?_ _ | ((with_reducible refine Yd3 ?_ ?_ _); rotate_left; first | exact .inl rfl | exact .inr (Yd2 _) | exact .inl (.inl rfl) | exact .inl (.inr rfl) | exact .inl (.inr (.inl rfl)) | exact .inl (.inr (.inr rfl)) | (focus (right; first | (simp; done) | (simp; omega)))) | with_reducible refine Yd1 ?_ (Yed HO.out)))
 ·have hb : (h == 0) = false := beq_eq_false_iff_ne.2 hh
  have hs : ((h + m) == 0) = false := beq_eq_false_iff_ne.2 (by omega)
  have HR := Ydy (show Jw ⟨h,m,l,s⟩ = h * 65536 / (h + m) by unfold Jw; rw [if_neg hh])
  have hpos : 1 ≤ h + m := by omega
  clear hh
  go_enter Tryz.func156,Tryz.ntmps156
  go_wp2_with fail
  refine (H1.out _).mono ?_
  rintro e w1 ⟨rfl,ho⟩
  have k : w1.heap[w.heap.size]? = some _ := blk ho (Zh w _)
  have p0 := Za (j:=0) k rfl
  have p1 := Za (j:=1) k rfl
  have p2 := Za (j:=2) k rfl
  have p3 := Za (j:=3) k rfl
  have q0 := Zc k 0
  have q1 := Zc k 1
  have q2 := Zc k 2
  have q3 := Zc k 3
  have hz : w.heap.size < w1.heap.size := Ze k
  have HO := Ydy ho
  clear k ho
  go_wp2
  go_ret
  refine ⟨by rw [HR.out]; rfl,?_⟩
  (repeat (first | with_reducible exact Yd5 _ _ | with_reducible refine Yec ?_ | with_reducible refine Yd8 ?_ _ | with_reducible refine Yd7 ?_ _ | ((with_reducible refine Yd3 ?_ ?_ _); rotate_left; first | exact .inl rfl | exact .inr (Yd2 _) | exact .inl (.inl rfl) | exact .inl (.inr rfl) | exact .inl (.inr (.inl rfl)) | exact .inl (.inr (.inr rfl)) | (focus (right; first | (simp; done) | (simp; omega)))) | with_reducible refine Yd1 ?_ (Yed HO.out)))
theorem Zpq (c : Cl) (h0 : 0 ≤ c.hits) (m0 : 0 ≤ c.misses) : 0 ≤ Jw c ∧ Jw c ≤ 65536 := by
 unfold Jw
 split
 ·omega
 ·rename_i hh
  have hp : 0 < c.hits + c.misses := by omega
  refine ⟨Int.ediv_nonneg (by omega) (by omega),?_⟩
  have : c.hits * 65536 ≤ 65536 * (c.hits + c.misses) := by omega
  exact Int.ediv_le_of_le_mul hp this
theorem Zwt (h m l s c : Int) (h0 : 0 ≤ h) (h1 : h ≤ 100000) (m0 : 0 ≤ m) (m1 : m ≤ 100000) (l0 : 0 ≤ l) (l1 : l ≤ 65536) (s0 : -1000 ≤ s) (s1 : s ≤ 1000) (c0 : 0 ≤ c) (c1 : c ≤ 1000) (w : World) :
  Calls Ydz 106 #[.agg #[.int .i64 h,.int .i64 m,.int .i64 l,.int .i64 s],.int .i64 c] w fun e w' => e = .returned (.tuple #[clA (Zc1 ⟨h,m,l,s⟩ c),.int .i64 (Zah ⟨h,m,l,s⟩)]) ∧ Zb No w w' := by
 have H1 := Ydy (Zne h m l s h0 h1 m0 m1 l0 l1 s0 s1)
 have H2 := Zvv h m l s h0 h1 m0 m1 l0 l1 s0 s1
 obtain ⟨r0,r1⟩ := Zpq ⟨h,m,l,s⟩ h0 m0
 have HT : clA (Zc1 ⟨h,m,l,s⟩ c) = .agg #[.int .i64 0,.int .i64 0,.int .i64 (Jw ⟨h,m,l,s⟩),.int .i64 (if Jw ⟨h,m,l,s⟩ - l ≥ 3277 ∨ -(Jw ⟨h,m,l,s⟩ - l) ≥ 3277 then (if (if Jw ⟨h,m,l,s⟩ < l then -s else s) < 0 then -Xl c else Xl c) else Qw (if Jw ⟨h,m,l,s⟩ < l then -s else s))] := rfl
 have HF : Zah ⟨h,m,l,s⟩ = if Jw ⟨h,m,l,s⟩ < l then -s else s := rfl
 rw [HT,HF]
 clear HT HF
 generalize Jw ⟨h,m,l,s⟩ = r at *
 have H2' := Ydy H2
 clear H2
 have K1 := Ydy (fun n h0 h1 W => Zux n h0 h1 W)
 have F1 := Ydy (fun W => Zh8 c c0 c1 W)
 obtain ⟨f0,f1⟩ := Zh7 c c0 c1
 generalize Xl c = fc at *
 by_cases hA : r < l
 ·by_cases hB : 3277 ≤ l - r
  ·by_cases hC : -s < 0
   ·have HE := Ydy (show (if r < l then -s else s) = (-s) from if_pos hA)
    have HE2 := Ydy (show (if r - l ≥ 3277 ∨ -(r - l) ≥ 3277 then (if (-s) < 0 then -fc else fc) else Qw (-s)) = -fc from by rw [if_pos (by omega),if_pos hC])
    rw [HE.out,HE2.out]
    clear HE HE2
    have K2 := Ydy (K1.out (-s) (by omega) (by omega))
    obtain ⟨y0,y1⟩ := Zbe (-s) (by omega) (by omega)
    generalize Qw (-s) = kv at *
    clear K1
    go_enter Yek,Yej
    go_wp2_with fail
    refine (H1.out _).mono ?_
    rintro e w1 ⟨rfl,ho⟩
    have k := blk ho (Zbv w _ _)
    have k' := blk ho (Kj w _ _)
    have p0 := Za (j:=0) k rfl
    have p1 := Za (j:=1) k rfl
    have p2 := Za (j:=2) k rfl
    have p3 := Za (j:=3) k rfl
    have q0 := Zc k 0
    have q1 := Zc k 1
    have q2 := Zc k 2
    have q3 := Zc k 3
    have hz : w.heap.size + 1 < w1.heap.size := Ze k'
    have HO := Ydy ho
    have K := Ydy k
    have K' := Ydy k'
    clear k k' ho
    go_wp2_with fail
    refine (H2'.out _).mono ?_
    rintro e w2 ⟨rfl,ho2⟩
    have k := blk ho2 K.out
    have k' := blk ho2 K'.out
    clear p0 p1 p2 p3 q0 q1 q2 q3
    have p0 := Za (j:=0) k rfl
    have p1 := Za (j:=1) k rfl
    have p2 := Za (j:=2) k rfl
    have p3 := Za (j:=3) k rfl
    have q0 := Zc k 0
    have q1 := Zc k 1
    have q2 := Zc k 2
    have q3 := Zc k 3
    have u0 := Za (j:=0) k' rfl
    have u1 := Za (j:=1) k' rfl
    have u2 := Za (j:=2) k' rfl
    have u3 := Za (j:=3) k' rfl
    have v0 := Zc k' 0
    have v1 := Zc k' 1
    have v2 := Zc k' 2
    have v3 := Zc k' 3
    have hz2 : w.heap.size + 1 < w2.heap.size := Ze k'
    have HO2 := Ydy ho2
    clear k k' ho2 K K'
    go_wp2_with fail
    refine (K2.out _).mono ?_
    rintro e w' ⟨rfl,rfl⟩
    go_wp2_with fail
    refine (F1.out _).mono ?_
    rintro e w' ⟨rfl,rfl⟩
    go_wp2
    refine bodyPost_ret (v:=.tuple #[.agg #[.int .i64 0,.int .i64 0,.int .i64 r,.int .i64 (-fc)],.int .i64 (-s)]) (by simp [results,Yeh,go_sem,u0,u1,u2,u3]) rfl ⟨rfl,?_⟩
    (repeat (first | with_reducible exact Yd5 _ _ | with_reducible refine Yec ?_ | with_reducible refine Yd8 ?_ _ | with_reducible refine Yd7 ?_ _ | ((with_reducible refine Yd3 ?_ ?_ _); rotate_left; first | exact .inl rfl | exact .inr (Yd2 _) | exact .inl (.inl rfl) | exact .inl (.inr rfl) | exact .inl (.inr (.inl rfl)) | exact .inl (.inr (.inr rfl)) | (focus (right; first | (simp; done) | (simp; omega)))) | with_reducible refine Yd1 ?_ (Yed HO2.out) | with_reducible refine Yd1 ?_ (Yed HO.out)))
   ·have HE := Ydy (show (if r < l then -s else s) = (-s) from if_pos hA)
    have HE2 := Ydy (show (if r - l ≥ 3277 ∨ -(r - l) ≥ 3277 then (if (-s) < 0 then -fc else fc) else Qw (-s)) = fc from by rw [if_pos (by omega),if_neg hC])
    rw [HE.out,HE2.out]
    clear HE HE2
    have K2 := Ydy (K1.out (-s) (by omega) (by omega))
    obtain ⟨y0,y1⟩ := Zbe (-s) (by omega) (by omega)
    generalize Qw (-s) = kv at *
    clear K1
    go_enter Yek,Yej
    go_wp2_with fail
    refine (H1.out _).mono ?_
    rintro e w1 ⟨rfl,ho⟩
    have k := blk ho (Zbv w _ _)
    have k' := blk ho (Kj w _ _)
    have p0 := Za (j:=0) k rfl
    have p1 := Za (j:=1) k rfl
    have p2 := Za (j:=2) k rfl
    have p3 := Za (j:=3) k rfl
    have q0 := Zc k 0
    have q1 := Zc k 1
    have q2 := Zc k 2
    have q3 := Zc k 3
    have hz : w.heap.size + 1 < w1.heap.size := Ze k'
    have HO := Ydy ho
    have K := Ydy k
    have K' := Ydy k'
    clear k k' ho
    go_wp2_with fail
    refine (H2'.out _).mono ?_
    rintro e w2 ⟨rfl,ho2⟩
    have k := blk ho2 K.out
    have k' := blk ho2 K'.out
    clear p0 p1 p2 p3 q0 q1 q2 q3
    have p0 := Za (j:=0) k rfl
    have p1 := Za (j:=1) k rfl
    have p2 := Za (j:=2) k rfl
    have p3 := Za (j:=3) k rfl
    have q0 := Zc k 0
    have q1 := Zc k 1
    have q2 := Zc k 2
    have q3 := Zc k 3
    have u0 := Za (j:=0) k' rfl
    have u1 := Za (j:=1) k' rfl
    have u2 := Za (j:=2) k' rfl
    have u3 := Za (j:=3) k' rfl
    have v0 := Zc k' 0
    have v1 := Zc k' 1
    have v2 := Zc k' 2
    have v3 := Zc k' 3
    have hz2 : w.heap.size + 1 < w2.heap.size := Ze k'
    have HO2 := Ydy ho2
    clear k k' ho2 K K'
    go_wp2_with fail
    refine (K2.out _).mono ?_
    rintro e w' ⟨rfl,rfl⟩
    go_wp2_with fail
    refine (F1.out _).mono ?_
    rintro e w' ⟨rfl,rfl⟩
    go_wp2
    refine bodyPost_ret (v:=.tuple #[.agg #[.int .i64 0,.int .i64 0,.int .i64 r,.int .i64 fc],.int .i64 (-s)]) (by simp [results,Yeh,go_sem,u0,u1,u2,u3]) rfl ⟨rfl,?_⟩
    (repeat (first | with_reducible exact Yd5 _ _ | with_reducible refine Yec ?_ | with_reducible refine Yd8 ?_ _ | with_reducible refine Yd7 ?_ _ | ((with_reducible refine Yd3 ?_ ?_ _); rotate_left; first | exact .inl rfl | exact .inr (Yd2 _) | exact .inl (.inl rfl) | exact .inl (.inr rfl) | exact .inl (.inr (.inl rfl)) | exact .inl (.inr (.inr rfl)) | (focus (right; first | (simp; done) | (simp; omega)))) | with_reducible refine Yd1 ?_ (Yed HO2.out) | with_reducible refine Yd1 ?_ (Yed HO.out)))
  ·have HE := Ydy (show (if r < l then -s else s) = (-s) from if_pos hA)
   have HE2 := Ydy (show (if r - l ≥ 3277 ∨ -(r - l) ≥ 3277 then (if (-s) < 0 then -fc else fc) else Qw (-s)) = Qw (-s) from by rw [if_neg (by omega)])
   rw [HE.out,HE2.out]
   clear HE HE2
   have K2 := Ydy (K1.out (-s) (by omega) (by omega))
   obtain ⟨y0,y1⟩ := Zbe (-s) (by omega) (by omega)
   clear K1
   go_enter Yek,Yej
   go_wp2_with fail
   refine (H1.out _).mono ?_
   rintro e w1 ⟨rfl,ho⟩
   have k := blk ho (Zbv w _ _)
   have k' := blk ho (Kj w _ _)
   have p0 := Za (j:=0) k rfl
   have p1 := Za (j:=1) k rfl
   have p2 := Za (j:=2) k rfl
   have p3 := Za (j:=3) k rfl
   have q0 := Zc k 0
   have q1 := Zc k 1
   have q2 := Zc k 2
   have q3 := Zc k 3
   have hz : w.heap.size + 1 < w1.heap.size := Ze k'
   have HO := Ydy ho
   have K := Ydy k
   have K' := Ydy k'
   clear k k' ho
   go_wp2_with fail
   refine (H2'.out _).mono ?_
   rintro e w2 ⟨rfl,ho2⟩
   have k := blk ho2 K.out
   have k' := blk ho2 K'.out
   clear p0 p1 p2 p3 q0 q1 q2 q3
   have p0 := Za (j:=0) k rfl
   have p1 := Za (j:=1) k rfl
   have p2 := Za (j:=2) k rfl
   have p3 := Za (j:=3) k rfl
   have q0 := Zc k 0
   have q1 := Zc k 1
   have q2 := Zc k 2
   have q3 := Zc k 3
   have u0 := Za (j:=0) k' rfl
   have u1 := Za (j:=1) k' rfl
   have u2 := Za (j:=2) k' rfl
   have u3 := Za (j:=3) k' rfl
   have v0 := Zc k' 0
   have v1 := Zc k' 1
   have v2 := Zc k' 2
   have v3 := Zc k' 3
   have hz2 : w.heap.size + 1 < w2.heap.size := Ze k'
   have HO2 := Ydy ho2
   clear k k' ho2 K K'
   go_wp2_with fail
   refine (K2.out _).mono ?_
   rintro e w' ⟨rfl,rfl⟩
   go_wp2
   refine bodyPost_ret (v:=.tuple #[.agg #[.int .i64 0,.int .i64 0,.int .i64 r,.int .i64 (Qw (-s))],.int .i64 (-s)]) (by simp [results,Yeh,go_sem,u0,u1,u2,u3]) rfl ⟨rfl,?_⟩
   (repeat (first | with_reducible exact Yd5 _ _ | with_reducible refine Yec ?_ | with_reducible refine Yd8 ?_ _ | with_reducible refine Yd7 ?_ _ | ((with_reducible refine Yd3 ?_ ?_ _); rotate_left; first | exact .inl rfl | exact .inr (Yd2 _) | exact .inl (.inl rfl) | exact .inl (.inr rfl) | exact .inl (.inr (.inl rfl)) | exact .inl (.inr (.inr rfl)) | (focus (right; first | (simp; done) | (simp; omega)))) | with_reducible refine Yd1 ?_ (Yed HO2.out) | with_reducible refine Yd1 ?_ (Yed HO.out)))
 ·by_cases hB : 3277 ≤ r - l
  ·by_cases hC : s < 0
   ·have HE := Ydy (show (if r < l then -s else s) = s from if_neg hA)
    have HE2 := Ydy (show (if r - l ≥ 3277 ∨ -(r - l) ≥ 3277 then (if s < 0 then -fc else fc) else Qw s) = -fc from by rw [if_pos (by omega),if_pos hC])
    rw [HE.out,HE2.out]
    clear HE HE2
    have K2 := Ydy (K1.out s (by omega) (by omega))
    obtain ⟨y0,y1⟩ := Zbe s (by omega) (by omega)
    generalize Qw s = kv at *
    clear K1
    go_enter Yek,Yej
    go_wp2_with fail
    refine (H1.out _).mono ?_
    rintro e w1 ⟨rfl,ho⟩
    have k := blk ho (Zbv w _ _)
    have k' := blk ho (Kj w _ _)
    have p0 := Za (j:=0) k rfl
    have p1 := Za (j:=1) k rfl
    have p2 := Za (j:=2) k rfl
    have p3 := Za (j:=3) k rfl
    have q0 := Zc k 0
    have q1 := Zc k 1
    have q2 := Zc k 2
    have q3 := Zc k 3
    have hz : w.heap.size + 1 < w1.heap.size := Ze k'
    have HO := Ydy ho
    have K := Ydy k
    have K' := Ydy k'
    clear k k' ho
    go_wp2_with fail
    refine (H2'.out _).mono ?_
    rintro e w2 ⟨rfl,ho2⟩
    have k := blk ho2 K.out
    have k' := blk ho2 K'.out
    clear p0 p1 p2 p3 q0 q1 q2 q3
    have p0 := Za (j:=0) k rfl
    have p1 := Za (j:=1) k rfl
    have p2 := Za (j:=2) k rfl
    have p3 := Za (j:=3) k rfl
    have q0 := Zc k 0
    have q1 := Zc k 1
    have q2 := Zc k 2
    have q3 := Zc k 3
    have u0 := Za (j:=0) k' rfl
    have u1 := Za (j:=1) k' rfl
    have u2 := Za (j:=2) k' rfl
    have u3 := Za (j:=3) k' rfl
    have v0 := Zc k' 0
    have v1 := Zc k' 1
    have v2 := Zc k' 2
    have v3 := Zc k' 3
    have hz2 : w.heap.size + 1 < w2.heap.size := Ze k'
    have HO2 := Ydy ho2
    clear k k' ho2 K K'
    go_wp2_with fail
    refine (K2.out _).mono ?_
    rintro e w' ⟨rfl,rfl⟩
    go_wp2_with fail
    refine (F1.out _).mono ?_
    rintro e w' ⟨rfl,rfl⟩
    go_wp2
    refine bodyPost_ret (v:=.tuple #[.agg #[.int .i64 0,.int .i64 0,.int .i64 r,.int .i64 (-fc)],.int .i64 s]) (by simp [results,Yeh,go_sem,u0,u1,u2,u3]) rfl ⟨rfl,?_⟩
    (repeat (first | with_reducible exact Yd5 _ _ | with_reducible refine Yec ?_ | with_reducible refine Yd8 ?_ _ | with_reducible refine Yd7 ?_ _ | ((with_reducible refine Yd3 ?_ ?_ _); rotate_left; first | exact .inl rfl | exact .inr (Yd2 _) | exact .inl (.inl rfl) | exact .inl (.inr rfl) | exact .inl (.inr (.inl rfl)) | exact .inl (.inr (.inr rfl)) | (focus (right; first | (simp; done) | (simp; omega)))) | with_reducible refine Yd1 ?_ (Yed HO2.out) | with_reducible refine Yd1 ?_ (Yed HO.out)))
   ·have HE := Ydy (show (if r < l then -s else s) = s from if_neg hA)
    have HE2 := Ydy (show (if r - l ≥ 3277 ∨ -(r - l) ≥ 3277 then (if s < 0 then -fc else fc) else Qw s) = fc from by rw [if_pos (by omega),if_neg hC])
    rw [HE.out,HE2.out]
    clear HE HE2
    have K2 := Ydy (K1.out s (by omega) (by omega))
    obtain ⟨y0,y1⟩ := Zbe s (by omega) (by omega)
    generalize Qw s = kv at *
    clear K1
    go_enter Yek,Yej
    go_wp2_with fail
    refine (H1.out _).mono ?_
    rintro e w1 ⟨rfl,ho⟩
    have k := blk ho (Zbv w _ _)
    have k' := blk ho (Kj w _ _)
    have p0 := Za (j:=0) k rfl
    have p1 := Za (j:=1) k rfl
    have p2 := Za (j:=2) k rfl
    have p3 := Za (j:=3) k rfl
    have q0 := Zc k 0
    have q1 := Zc k 1
    have q2 := Zc k 2
    have q3 := Zc k 3
    have hz : w.heap.size + 1 < w1.heap.size := Ze k'
    have HO := Ydy ho
    have K := Ydy k
    have K' := Ydy k'
    clear k k' ho
    go_wp2_with fail
    refine (H2'.out _).mono ?_
    rintro e w2 ⟨rfl,ho2⟩
    have k := blk ho2 K.out
    have k' := blk ho2 K'.out
    clear p0 p1 p2 p3 q0 q1 q2 q3
    have p0 := Za (j:=0) k rfl
    have p1 := Za (j:=1) k rfl
    have p2 := Za (j:=2) k rfl
    have p3 := Za (j:=3) k rfl
    have q0 := Zc k 0
    have q1 := Zc k 1
    have q2 := Zc k 2
    have q3 := Zc k 3
    have u0 := Za (j:=0) k' rfl
    have u1 := Za (j:=1) k' rfl
    have u2 := Za (j:=2) k' rfl
    have u3 := Za (j:=3) k' rfl
    have v0 := Zc k' 0
    have v1 := Zc k' 1
    have v2 := Zc k' 2
    have v3 := Zc k' 3
    have hz2 : w.heap.size + 1 < w2.heap.size := Ze k'
    have HO2 := Ydy ho2
    clear k k' ho2 K K'
    go_wp2_with fail
    refine (K2.out _).mono ?_
    rintro e w' ⟨rfl,rfl⟩
    go_wp2_with fail
    refine (F1.out _).mono ?_
    rintro e w' ⟨rfl,rfl⟩
    go_wp2
    refine bodyPost_ret (v:=.tuple #[.agg #[.int .i64 0,.int .i64 0,.int .i64 r,.int .i64 fc],.int .i64 s]) (by simp [results,Yeh,go_sem,u0,u1,u2,u3]) rfl ⟨rfl,?_⟩
    (repeat (first | with_reducible exact Yd5 _ _ | with_reducible refine Yec ?_ | with_reducible refine Yd8 ?_ _ | with_reducible refine Yd7 ?_ _ | ((with_reducible refine Yd3 ?_ ?_ _); rotate_left; first | exact .inl rfl | exact .inr (Yd2 _) | exact .inl (.inl rfl) | exact .inl (.inr rfl) | exact .inl (.inr (.inl rfl)) | exact .inl (.inr (.inr rfl)) | (focus (right; first | (simp; done) | (simp; omega)))) | with_reducible refine Yd1 ?_ (Yed HO2.out) | with_reducible refine Yd1 ?_ (Yed HO.out)))
  ·have HE := Ydy (show (if r < l then -s else s) = s from if_neg hA)
   have HE2 := Ydy (show (if r - l ≥ 3277 ∨ -(r - l) ≥ 3277 then (if s < 0 then -fc else fc) else Qw s) = Qw s from by rw [if_neg (by omega)])
   rw [HE.out,HE2.out]
   clear HE HE2
   have K2 := Ydy (K1.out s (by omega) (by omega))
   obtain ⟨y0,y1⟩ := Zbe s (by omega) (by omega)
   clear K1
   go_enter Yek,Yej
   go_wp2_with fail
   refine (H1.out _).mono ?_
   rintro e w1 ⟨rfl,ho⟩
   have k := blk ho (Zbv w _ _)
   have k' := blk ho (Kj w _ _)
   have p0 := Za (j:=0) k rfl
   have p1 := Za (j:=1) k rfl
   have p2 := Za (j:=2) k rfl
   have p3 := Za (j:=3) k rfl
   have q0 := Zc k 0
   have q1 := Zc k 1
   have q2 := Zc k 2
   have q3 := Zc k 3
   have hz : w.heap.size + 1 < w1.heap.size := Ze k'
   have HO := Ydy ho
   have K := Ydy k
   have K' := Ydy k'
   clear k k' ho
   go_wp2_with fail
   refine (H2'.out _).mono ?_
   rintro e w2 ⟨rfl,ho2⟩
   have k := blk ho2 K.out
   have k' := blk ho2 K'.out
   clear p0 p1 p2 p3 q0 q1 q2 q3
   have p0 := Za (j:=0) k rfl
   have p1 := Za (j:=1) k rfl
   have p2 := Za (j:=2) k rfl
   have p3 := Za (j:=3) k rfl
   have q0 := Zc k 0
   have q1 := Zc k 1
   have q2 := Zc k 2
   have q3 := Zc k 3
   have u0 := Za (j:=0) k' rfl
   have u1 := Za (j:=1) k' rfl
   have u2 := Za (j:=2) k' rfl
   have u3 := Za (j:=3) k' rfl
   have v0 := Zc k' 0
   have v1 := Zc k' 1
   have v2 := Zc k' 2
   have v3 := Zc k' 3
   have hz2 : w.heap.size + 1 < w2.heap.size := Ze k'
   have HO2 := Ydy ho2
   clear k k' ho2 K K'
   go_wp2_with fail
   refine (K2.out _).mono ?_
   rintro e w' ⟨rfl,rfl⟩
   go_wp2
   refine bodyPost_ret (v:=.tuple #[.agg #[.int .i64 0,.int .i64 0,.int .i64 r,.int .i64 (Qw s)],.int .i64 s]) (by simp [results,Yeh,go_sem,u0,u1,u2,u3]) rfl ⟨rfl,?_⟩
   (repeat (first | with_reducible exact Yd5 _ _ | with_reducible refine Yec ?_ | with_reducible refine Yd8 ?_ _ | with_reducible refine Yd7 ?_ _ | ((with_reducible refine Yd3 ?_ ?_ _); rotate_left; first | exact .inl rfl | exact .inr (Yd2 _) | exact .inl (.inl rfl) | exact .inl (.inr rfl) | exact .inl (.inr (.inl rfl)) | exact .inl (.inr (.inr rfl)) | (focus (right; first | (simp; done) | (simp; omega)))) | with_reducible refine Yd1 ?_ (Yed HO2.out) | with_reducible refine Yd1 ?_ (Yed HO.out)))
structure Yb where
 fx : Nat
 fl : Zgb
 dx : Nat
 km : Nat
def kf (l : List (Int × Int)) : Int → Option Value := fun i => (Zk l i).map (Value.int .i64)
def Ycv (l : Yb) (p : Pol) : Array Value := #[.int .i64 p.cap,.int .i64 p.per,Pt l.fx,Pt l.dx,.map (some l.km),.int .i64 p.cap,.int .i64 p.win,.int .i64 p.prot,.int .i64 p.cl.hits,.int .i64 p.cl.misses,.int .i64 p.cl.last,.int .i64 p.cl.step]
structure Zv (own : Nat → Nat) (w : World) (x : Nat) (l : Yb) (p : Pol) : Prop where
 ox : own x = 20
 ok : own l.km = 39
 block : w.heap[x]? = some (.cells (Ycv l p) 91 (0,0))
 fi : Za7 own w l.fx l.fl p.fi
 rw : X8 own w l.dx p.rw
 keys : Zs w l.km (kf p.keys) p.keys.length
abbrev Kb (own : Nat → Nat) : Nat → Prop := Own own 20 40
theorem Zv.kept {l : Yb} (h : Zv own w x l p) (he : Ext w own own') (ho : Zb S w w') (hS : ∀ b,b < w.heap.size → 20 ≤ own b → own b < 40 → ¬ S b) : Zv own' w' x l p := by
 have hx := Ze h.block
 have hk := h.keys.lt
 have o1 := h.ox
 have o2 := h.ok
 exact ⟨(he _ hx).trans h.ox,(he _ hk).trans h.ok,ho.kept h.block (hS _ hx (by omega) (by omega)),h.fi.kept he ho (fun b hb hF => hS b hb (by rcases hF with a | a <;> omega) (by rcases hF with a | a <;> omega)),h.rw.kept he ho (fun b hb h1 h2 => hS b hb (by omega) (by omega)),h.keys.kept ho (hS _ hk (by omega) (by omega))⟩
theorem FiL.pol {b : Nat} (h : FiL own b) : Kb own b := by rcases h with a | a <;> exact ⟨by omega,by omega⟩
theorem DqL.pol {b : Nat} (h : DqL own b) : Kb own b := ⟨by have := h.1; omega,by have := h.2; omega⟩
theorem Zv.rows {l : Yb} (h : Zv own w x l p) (he : Ext w own own') (hr : X8 own' w' l.dx r) (ho : Zb (DqL own) w w') : Zv own' w' x l { p with rw := r } := by
 have hx := Ze h.block
 have hk := h.keys.lt
 have o1 := h.ox
 have o2 := h.ok
 exact ⟨(he _ hx).trans h.ox,(he _ hk).trans h.ok,ho.kept h.block (fun e => by have := e.1; omega),h.fi.kept he ho (fun b hb hF e => by have h1 := e.1; have h2 := e.2; rcases hF with a | a <;> omega),hr,h.keys.kept ho (fun e => by have := e.2; omega)⟩
theorem Zv.filter {l : Yb} {f : Fi} (h : Zv own w x l p) (hr : Za7 own w' l.fx l.fl f) (ho : Zb (FiL own) w w') : Zv own w' x l { p with fi := f } := by
 have o1 := h.ox
 have o2 := h.ok
 exact ⟨h.ox,h.ok,ho.kept h.block (fun e => by rcases e with a | a <;> omega),hr,h.rw.kept (Yd9 _ _) ho (fun b _ h1 h2 e => by rcases e with a | a <;> omega),h.keys.kept ho (fun e => by rcases e with a | a <;> omega)⟩
theorem Zv.cells {l : Yb} {p' : Pol} (h : Zv own w x l p) (hb : w'.heap[x]? = some (.cells (Ycv l p') 91 (0,0))) (ho : Zb (fun b => b = x) w w') (h1 : p'.fi = p.fi) (h2 : p'.rw = p.rw) (h3 : p'.keys = p.keys) : Zv own w' x l p' := by
 have o1 := h.ox
 have o2 := h.ok
 refine ⟨h.ox,h.ok,hb,?_,?_,?_⟩
 ·rw [h1]; exact h.fi.kept (Yd9 _ _) ho (fun b _ hF e => by subst e; rcases hF with a | a <;> omega)
 ·rw [h2]; exact h.rw.kept (Yd9 _ _) ho (fun b _ h1 h2 e => by subst e; omega)
 ·rw [h3]; exact h.keys.kept ho (fun e => by rw [e] at o2; omega)
theorem Zv.maps {l : Yb} {ks : List (Int × Int)} (h : Zv own w x l p) (hm : Zs w' l.km (kf ks) ks.length) (ht : w.mapTurned w' l.km) : Zv own w' x l { p with keys := ks } ∧ Zb (fun b => b = l.km) w w' := by
 have o1 := h.ox
 have o2 := h.ok
 have ho : Zb (fun b => b = l.km) w w' := (Yd5 _ _).turned ht (.inl rfl)
 exact ⟨⟨h.ox,h.ok,ho.kept h.block (fun e => by rw [e] at o1; omega),h.fi.kept (Yd9 _ _) ho (fun b _ hF e => by subst e; rcases hF with a | a <;> omega),h.rw.kept (Yd9 _ _) ho (fun b _ h1 h2 e => by subst e; omega),hm⟩,ho⟩
def Zao (own : Nat → Nat) (w : World) (x : Nat) (l : Yb) (p : Pol) (w' : World) : Prop := ∃ own',Ext w own own' ∧ Zv own' w' x l p ∧ Zb (Kb own) w w'
theorem Zoq {l : Yb} (h : Zv own w x l p) (hc : p.rw.count ≤ 400) :
  Calls Ydz 112 #[Pt x] w fun e w' => e = .returned (.int .i64 p.rw.total) ∧ w = w' := by
 have c3 := Za (j:=3) h.block rfl
 have W0 := Ydy (Zel h.rw (k:=0) (by omega))
 have W1 := Ydy (Zel h.rw (k:=1) (by omega))
 have W2 := Ydy (Zel h.rw (k:=2) (by omega))
 have hb : ∀ k,k < 3 → 0 ≤ Xq (p.rw.get k) ∧ Xq (p.rw.get k) ≤ 2147483648 * 400 := fun k hk => h.rw.sums hc hk
 obtain ⟨b00,b01⟩ := hb 0 (by omega)
 obtain ⟨b10,b11⟩ := hb 1 (by omega)
 obtain ⟨b20,b21⟩ := hb 2 (by omega)
 have HT : Hid (p.rw.total = Xq (p.rw.get 0) + Xq (p.rw.get 1) + Xq (p.rw.get 2)) := Ydy rfl
 generalize p.rw.total = tt at *
 generalize Xq (p.rw.get 0) = s0 at *
 generalize Xq (p.rw.get 1) = s1 at *
 generalize Xq (p.rw.get 2) = s2 at *
 have H0 : Hid (Calls Ydz 158 #[Pt l.dx,.int .i64 0] w fun e w' => e = .returned (.int .i64 s0) ∧ w = w') := Ydy W0.out
 have H1 : Hid (Calls Ydz 158 #[Pt l.dx,.int .i64 1] w fun e w' => e = .returned (.int .i64 s1) ∧ w = w') := Ydy W1.out
 have H2 : Hid (Calls Ydz 158 #[Pt l.dx,.int .i64 2] w fun e w' => e = .returned (.int .i64 s2) ∧ w = w') := Ydy W2.out
 clear h hb W0 W1 W2
 go_enter Tryz.func112,Tryz.ntmps112
 go_wp2
 refine wp_loop_rounds 4 ?_
 rw [rounds_succ]
 go_wp2_with fail
 refine (H0.out).mono ?_
 rintro e w' ⟨rfl,rfl⟩
 go_wp2
 rw [rounds_succ]
 go_wp2_with fail
 refine (H1.out).mono ?_
 rintro e w' ⟨rfl,rfl⟩
 go_wp2
 rw [rounds_succ]
 go_wp2_with fail
 refine (H2.out).mono ?_
 rintro e w' ⟨rfl,rfl⟩
 go_wp2
 rw [rounds_succ]
 go_wp2
 go_ret
 exact ⟨by rw [HT.out]; rfl,rfl⟩
theorem Zq2 (h0 : 0 ≤ most) (h : most < Xq (r.get k)) : ∃ t rest,r.get k = t :: rest := by
 cases hr : r.get k with
 | nil => rw [hr] at h; simp only [Xq] at h; omega
 | cons t rest => exact ⟨t,rest,rfl⟩
theorem Zsn {t : Nw} (h : ∀ s ∈ rest,s.1 ≠ t.1) : Va t.1 (t :: rest) = rest := by
 unfold Va
 rw [List.filter_cons,if_neg (by simp),Yem]
 intro a ha
 simpa using h a ha
theorem Zp3 (h : ∀ s ∈ l,s.1 ≠ id) : Va id l = l := by
 unfold Va
 rw [Yem]
 intro a ha
 simpa using h a ha
theorem X8.alone (h : X8 own w x r) (hk : k < 3) {t : Nw} (hr : r.get k = t :: rest) : (∀ s ∈ rest,s.1 ≠ t.1) ∧ ∀ j,j < 3 → j ≠ k → ∀ s ∈ r.get j,s.1 ≠ t.1 := by
 obtain ⟨d,bs,hd,rfl⟩ := h.ex
 rw [Yl _ hk] at hr
 cases hb : bs k with
 | nil => rw [hb] at hr; cases hr
 | cons a B =>
  rw [hb] at hr
  simp only [Yei,List.cons.injEq] at hr
  obtain ⟨rfl,rfl⟩ := hr
  obtain ⟨h1,h2⟩ := hd.others hk (A:=[]) (B:=B) (t:=a) (by rw [hb]; rfl)
  refine ⟨fun s hs => ?_,fun j hj hjk s hs => ?_⟩
  ·obtain ⟨s',hs',rfl⟩ := Yd6.1 hs
   exact h1 s' hs'
  ·rw [Yl _ hj] at hs
   obtain ⟨s',hs',rfl⟩ := Yd6.1 hs
   exact h2 j hj hjk s' hs'
theorem Jc (r : Rw) (hk : k < 3) (most : Int) (hj : j < 3) : (r.pass k most).get j = if j = 1 then r.get 1 ++ (Xu most (r.get k)).1 else if j = k then (Xu most (r.get k)).2 else r.get j := by
 unfold Rw.pass
 rw [Zj6 _ (by omega) hj,Zj6 _ hk hj]
 rfl
theorem Zrl (h : X8 own w x r) (hk : k < 3) (hk1 : k ≠ 1) {t : Nw} (hr : r.get k = t :: rest) (hm : most < Xq (r.get k)) :
  ((r.out t.1).push 1 t).pass k most = r.pass k most ∧ ((r.out t.1).push 1 t).get k = rest ∧ ((r.out t.1).push 1 t).count = r.count := by
 obtain ⟨h1,h2⟩ := h.alone hk hr
 have hg : ((r.out t.1).push 1 t).get k = rest := by
  rw [V0 _ (by omega) hk,if_neg hk1,Zf6 _ _ hk,hr,Zsn h1]
 have hg1 : ((r.out t.1).push 1 t).get 1 = r.get 1 ++ [t] := by
  rw [V0 _ (by omega) (by omega),if_pos rfl,Zf6 _ _ (by omega),Zp3 (h2 1 (by omega) (Ne.symm hk1))]
 have hgo : ∀ j,j < 3 → j ≠ k → j ≠ 1 → ((r.out t.1).push 1 t).get j = r.get j := fun j hj a b => by
  rw [V0 _ (by omega) hj,if_neg b,Zf6 _ _ hj,Zp3 (h2 j hj a)]
 have hp : Xu most (r.get k) = (t :: (Xu most rest).1,(Xu most rest).2) := by
  rw [hr] at hm ⊢
  rw [Xu,if_pos hm]
 have hr1 : r.r1 = r.get 1 := rfl
 refine ⟨?_,hg,?_⟩
 ·refine Zcm fun j hj => ?_
  rw [Jc _ hk _ hj,Jc _ hk _ hj,hg,hp,hg1,List.append_assoc]
  by_cases e : j = 1
  ·rw [if_pos e,if_pos e]; rfl
  ·rw [if_neg e,if_neg e]
   by_cases e2 : j = k
   ·rw [if_pos e2,if_pos e2]
   ·rw [if_neg e2,if_neg e2,hgo j hj e2 e]
 ·have e : ∀ q : Rw,q.count = (q.get 0).length + (q.get 1).length + (q.get 2).length := fun q => rfl
  rw [e,e,hg1]
  have hl : (r.get k).length = rest.length + 1 := by rw [hr]; rfl
  have hkk : k = 0 ∨ k = 2 := by omega
  rcases hkk with rfl | rfl
  ·rw [hg,hgo 2 (by omega) (by omega) (by omega)]; simp only [Yew,List.length_cons,List.length_nil]; omega
  ·rw [hg,hgo 0 (by omega) (by omega) (by omega)]; simp only [Yew,List.length_cons,List.length_nil]; omega
theorem Zrm (hk : k < 3) (hm : ¬ most < Xq (r.get k)) : r.pass k most = r := by
 have hp : Xu most (r.get k) = ([],r.get k) := by
  cases hr : r.get k with
  | nil => rfl
  | cons t rest => rw [hr] at hm; rw [Xu,if_neg hm]
 refine Zcm fun j hj => ?_
 rw [Jc _ hk _ hj,hp,List.append_nil]
 by_cases e : j = 1
 ·rw [if_pos e,e]
 ·rw [if_neg e]
  by_cases e2 : j = k
  ·rw [if_pos e2,e2]
  ·rw [if_neg e2]
def Zsz (own : Nat → Nat) (w : World) (x : Nat) (l : Yb) (p : Pol) (k : Nat) (most : Int) (g : Nat) (wr : World) : Prop :=
 ∃ own' r,Ext w own own' ∧ Zv own' wr x l { p with rw := r } ∧ Zb (Kb own) w wr ∧ r.pass k most = p.rw.pass k most ∧ r.count = p.rw.count ∧ (r.get k).length = g
def Yb2 (own : Nat → Nat) (w : World) (x : Nat) (l : Yb) (p : Pol) (e : Ending) (w' : World) : Prop := e = .returned (.tuple #[]) ∧ Zao own w x l p w'
theorem Zg2 {l : Yb} (h : Zv own w x l p) (hc : p.rw.count ≤ 400) (hk : k < 3) (hk1 : k ≠ 1) (hm : 0 ≤ most) :
  Calls Ydz 108 #[Pt x,.int .i64 (k : Int),.int .i64 most] w (Yb2 own w x l { p with rw := p.rw.pass k most }) := by
 have H0 : Hid (Zsz own w x l p k most (p.rw.get k).length w) := Ydy ⟨own,p.rw,Yd9 _ _,h,Yd5 _ _,rfl,rfl,rfl⟩
 have HC := Ydy hc
 clear h hc
 go_enter Tryz.func108,Tryz.ntmps108
 go_wp2
 go_loopg [] (p.rw.get k).length (fun g wr => Zsz own w x l p k most g wr)
 case atStart => exact H0.out
 case round =>
  obtain ⟨own',r,he,hp,ho,hps,hct,hln⟩ := hrel
  have c3 := Za (j:=3) hp.block rfl
  have W := Ydy (Zel hp.rw hk)
  by_cases hlt : most < Xq (r.get k)
  ·obtain ⟨t,rest,hr⟩ := Zq2 hm hlt
   obtain ⟨s1,s2,s3⟩ := Zrl hp.rw hk hk1 hr hlt
   have hfr : Yi (r.get k) = t.1 := by rw [hr]; rfl
   have F : Hid (∀ W3,Sm wr W3 → Calls Ydz 159 #[Pt l.dx,.int .i64 (k : Int)] W3 fun e w' => e = .returned (.int .i64 t.1) ∧ w' = W3) := Ydy (fun W3 hs => by
    have := Zf8 (hp.rw.kept (Yd9 _ _) hs.only (fun _ _ _ _ h => h) : X8 own' W3 l.dx r) hk
    rw [hfr] at this
    exact this.mono fun e w' ⟨a,b⟩ => ⟨a,b.symm⟩)
   have M : Hid (∀ W3,Sm wr W3 → Calls Ydz 115 #[Pt l.dx,.int .i64 t.1,.int .i64 1] W3 (RwQ own' W3 l.dx ((r.out t.1).push 1 (t.1,t.2)))) := Ydy (fun W3 hs => Zv7 (hp.rw.kept (Yd9 _ _) hs.only (fun _ _ _ _ h => h)) (hp.rw.of_get hk (by rw [hr]; exact Yd4)) (i:=1) (by omega) (by show r.count ≤ 400; rw [hct]; exact HC.out))
   have HFL : Hid (rest.length + 1 = gk) := Ydy (by rw [← hln,hr]; rfl)
   have HX : Hid (∀ W3,Sm wr W3 → ∀ own'' w',Ext W3 own' own'' → X8 own'' w' l.dx ((r.out t.1).push 1 (t.1,t.2)) → Zb (DqL own') W3 w' → Zsz own w x l p k most rest.length w') := Ydy (fun W3 hs own'' w' a1 a2 a3 => ⟨own'',_,he.trans ho.size (fun b hb => a1 b (by rw [hs.size]; exact hb)),(hp.kept (Yd9 _ _) hs.only (fun _ _ _ _ h => h)).rows a1 a2 a3,(ho.trans hs.only).then a3 (fun i hi hT => by have h : 20 ≤ own' i ∧ own' i < 40 := hT.pol; rw [he i hi] at h; exact h),s1.trans hps,s3.trans hct,by rw [s2]⟩)
   clear he hp ho hps hct hln hr s1 s2 s3 hfr
   generalize Xq (r.get k) = ws at *
   go_wp2_with fail
   refine (W.out).mono ?_
   rintro e w' ⟨rfl,rfl⟩
   go_wp2
   refine Z4 10 (by kernel_rfl) (by kernel_rfl) ?_
   intro W3 hc3 hf3 hs3 HW3
   have hsm : Sm wr W3 := by rw [← HW3.out]; exact ⟨rfl,rfl,rfl,rfl⟩
   have F2 := F.out W3 hsm
   have HSM := Ydy hsm
   clear hsm
   simp only [Yeu,List.take_zero,Yet,List.drop_zero]
   iterate 9 still_step
   still_call F2
   refine wpStill_nil ?_
   go_wp2_with fail
   refine (M.out W3 HSM.out).mono ?_
   rintro e w4 ⟨rfl,own'',a1,a2,a3⟩
   have HR := Ydy (HX.out W3 HSM.out own'' w4 a1 a2 a3)
   clear a1 a2 a3
   go_wp2
   go_roundg rest.length
   case rel => exact HR.out
   case measure => have := HFL.out; omega
  ·have HS := Ydy (Zrm (r:=r) hk hlt)
   have HP := Ydy hp
   have HE := Ydy he
   have HO := Ydy ho
   have HPS := Ydy hps
   clear hp he ho hps hln hct
   generalize Xq (r.get k) = ws at *
   go_wp2_with fail
   refine (W.out).mono ?_
   rintro e w' ⟨rfl,rfl⟩
   go_wp2
   go_end0
   refine ⟨rfl,own',HE.out,?_,HO.out⟩
   rw [← HPS.out,HS.out]
   exact HP.out
theorem Zgw (l : List (Int × Int)) (k v : Int) (i : Int) : kf (Yn l k v) i = upd (kf l) k (some (.int .i64 v)) i := by
 unfold kf upd
 rw [Yv]
 by_cases h : i = k
 ·rw [if_pos h,if_pos h]; rfl
 ·rw [if_neg h,if_neg h]
theorem Znq (l : List (Int × Int)) (k : Int) (i : Int) : kf (Xe l k) i = upd (kf l) k none i := by
 unfold kf upd
 rw [Xp]
 by_cases h : i = k
 ·rw [if_pos h,if_pos h]; rfl
 ·rw [if_neg h,if_neg h]
theorem Kw (l : List (Int × Int)) (k : Int) : (kf l k).isSome = (Zk l k).isSome := by unfold kf; cases Zk l k <;> rfl
theorem Zjw (l : List (Int × Int)) (k : Int) : (kf l k).getD (.int .i64 0) = .int .i64 ((Zk l k).getD 0) := by unfold kf; cases Zk l k <;> rfl
theorem Zjb (w : World) : (zeroValue 3).run Ydz w = .ok (.int .i64 0) w := by kernel_rfl
theorem Zv.key {l : Yb} (h : Zv own w x l p) (hi : I64 id) : (Instr.lookup 60 (.map (some l.km)) (.int .i64 id) false).run Ydz w = .ok (.int .i64 (Kr p id)) w := by
 have := h.keys.get (t:=60) (e:=3) Yeq (Zjb w) hi
 rw [Zjw] at this
 exact this
theorem Zv.there {l : Yb} (h : Zv own w x l p) (hi : I64 id) : (Instr.lookup 60 (.map (some l.km)) (.int .i64 id) true).run Ydz w = .ok (.tuple #[.int .i64 (Kr p id),.bool (Zk p.keys id).isSome]) w := by
 have := h.keys.look (t:=60) (e:=3) Yeq (Zjb w) hi
 rw [Zjw,Kw] at this
 exact this
def Yby (own : Nat → Nat) (w : World) (x : Nat) (l : Yb) (p : Pol) (e : Ending) (w' : World) : Prop := e = .returned (.tuple #[]) ∧ Zao own w x l p w'
theorem Zkv {l : Yb} (h : Zv own w x l p) (hk : Yo p.keys) (hc : p.rw.count ≤ 400) (hof : p.rw.of id = some (k,v)) (hi : I64 id) :
  Calls Ydz 68 #[Pt x,.int .i64 id] w (Yby own w x l (p.drop id)) := by
 have U := Ydy (Zv8 h.rw hof hc)
 have c3 := Za (j:=3) h.block rfl
 have H := Ydy h
 have HK := Ydy hk
 clear h hk hc hof
 go_enter Tryz.func68,Tryz.ntmps68
 go_wp2_with fail
 refine (U.out).mono ?_
 rintro e w1 ⟨rfl,own',a1,a2,a3⟩
 have hp := H.out.rows a1 a2 a3
 have c4 := Za (j:=4) hp.block rfl
 have HP := Ydy hp
 have A1 := Ydy a1
 have A3 := Ydy a3
 clear hp a1 a2 a3
 go_wp2_with (refine J8 (by rfl) (t:=60) (by rfl) (e:=3) Yeq (b:=l.km) (by rfl) HP.out.keys (k:=id) (by rfl) hi ?_; intro w2 hm ht; have HM := Ydy hm; have HT := Ydy ht; clear hm ht)
 go_end0
 have hks : Zs w2 l.km (kf (Xe p.keys id)) (Xe p.keys id).length := by
  have := HM.out.eq (g:=kf (Xe p.keys id)) (fun i _ => Znq _ _ _)
  rw [Kw,← Qk HK.out] at this
  exact this
 obtain ⟨hp2,ho2⟩ := HP.out.maps hks HT.out
 have ok := HP.out.ok
 refine ⟨rfl,own',A1.out,hp2,(A3.out.mono (fun b _ h => h.pol)).then ho2 (fun i hi2 e => ?_)⟩
 have h1 := A1.out i hi2
 have e' : i = l.km := e
 rw [e'] at h1
 rw [e']
 exact ⟨by omega,by omega⟩
theorem Zv.sm {l : Yb} (h : Zv own w x l p) (hs : Sm w w') : Zv own w' x l p := h.kept (Yd9 _ _) hs.only (fun _ _ _ _ h => h)
theorem X8.sm (h : X8 own w x r) (hs : Sm w w') : X8 own w' x r := h.kept (Yd9 _ _) hs.only (fun _ _ _ _ h => h)
theorem Zq0 (h : X8 own w x r) (hk : k < 3) : 0 ≤ Yi (r.get k) ∧ Yi (r.get k) ≤ 65536 := by
 cases hr : r.get k with
 | nil => exact ⟨Yex _,by simp [Yi]⟩
 | cons t rest =>
  have := (h.fine hk (t:=t) (by rw [hr]; exact Yd4)).1
  simp only [Yi]; omega
theorem Ztm (h : X8 own w x r) (hk : k < 3) : 0 ≤ Jm (r.get k) ∧ Jm (r.get k) ≤ 65536 := by
 unfold Jm
 cases hr : (r.get k).getLast? with
 | none => exact ⟨Yex _,by simp⟩
 | some t =>
  have := (h.fine hk (t:=t) (List.mem_of_getLast? hr)).1
  simp only; omega
theorem Zj4 {F : FuncId} {args : Array Value} {v : Value} (h : Calls Ydz F args w fun e w' => e = .returned v ∧ w = w') : Calls Ydz F args w fun e w' => e = .returned v ∧ w' = w := h.mono fun _ _ ⟨a,b⟩ => ⟨a,b.symm⟩
def Yb1 (w : World) (id : Int) (e : Ending) (w' : World) : Prop := e = .returned (.int .i64 id) ∧ Zb No w w'
theorem Zva {l : Yb} (h : Zv own w x l p) :
  Calls Ydz 113 #[Pt x] w (Yb1 w p.next) := by
 have hv := Zq0 h.rw (k:=1) (by omega)
 have hb := Ztm h.rw (k:=1) (by omega)
 have F1 : Hid (∀ W,Sm w W → Calls Ydz 159 #[Pt l.dx,.int .i64 1] W fun e w' => e = .returned (.int .i64 (Yi p.rw.r1)) ∧ w' = W) := Ydy (fun W hs => Zj4 (Zf8 (h.rw.sm hs) (k:=1) (by omega)))
 have B1 : Hid (∀ W,Sm w W → Calls Ydz 160 #[Pt l.dx,.int .i64 1] W fun e w' => e = .returned (.int .i64 (Jm p.rw.r1)) ∧ w' = W) := Ydy (fun W hs => Zj4 (Ybc (h.rw.sm hs) (k:=1) (by omega)))
 have L2 : Hid (∀ W,Sm w W → Calls Ydz 161 #[Pt l.dx,.int .i64 2] W fun e w' => e = .returned (.int .i64 (p.rw.r2.length : Int)) ∧ W = w') := Ydy (fun W hs => Ycz (h.rw.sm hs) (k:=2) (by omega))
 have F2 : Hid (∀ W,Sm w W → Calls Ydz 159 #[Pt l.dx,.int .i64 2] W fun e w' => e = .returned (.int .i64 (Yi p.rw.r2)) ∧ W = w') := Ydy (fun W hs => Zf8 (h.rw.sm hs) (k:=2) (by omega))
 have F0 : Hid (∀ W,Sm w W → Calls Ydz 159 #[Pt l.dx,.int .i64 0] W fun e w' => e = .returned (.int .i64 (Yi p.rw.r0)) ∧ W = w') := Ydy (fun W hs => Zf8 (h.rw.sm hs) (k:=0) (by omega))
 have HN : Hid (p.next = if Yi p.rw.r1 = 0 then (if 0 < p.rw.r2.length then Yi p.rw.r2 else Yi p.rw.r0) else if Yi p.rw.r1 = Jm p.rw.r1 then Yi p.rw.r1 else if Za9 p.fi (Kr p (Jm p.rw.r1)) (Kr p (Yi p.rw.r1)) then Yi p.rw.r1 else Jm p.rw.r1) := Ydy rfl
 have hv' : 0 ≤ Yi p.rw.r1 ∧ Yi p.rw.r1 ≤ 65536 := hv
 have hb' : 0 ≤ Jm p.rw.r1 ∧ Jm p.rw.r1 ≤ 65536 := hb
 clear hv hb
 have c3 : w.cell? ⟨x,3,none⟩ = some (Pt l.dx) := Za h.block rfl
 have c4 : w.cell? ⟨x,4,none⟩ = some (.map (some l.km)) := Za h.block rfl
 have c2 : w.cell? ⟨x,2,none⟩ = some (Pt l.fx) := Za h.block rfl
 have H := Ydy h
 clear h
 generalize p.next = nx at *
 generalize Yi p.rw.r1 = v at *
 generalize Jm p.rw.r1 = c at *
 generalize Yi p.rw.r2 = v2 at *
 generalize Yi p.rw.r0 = v0 at *
 generalize p.rw.r2.length = n2 at *
 obtain ⟨hv0,hv1⟩ := hv'
 obtain ⟨hb0,hb1⟩ := hb'
 by_cases h1 : v = 0
 ·subst h1
  by_cases h2 : 0 < n2
  ·have hr := HN.out
   rw [if_pos rfl,if_pos h2] at hr
   have HR := Ydy hr
   clear hr
   have hz : (0 : Int) < (n2 : Int) := by omega
   go_enter Yes,Yep
   go_wp2
   go_quiet ((first | (go_at_call 159; exact Calls.quiet_of_same (F1.out _ (Yeg _ _))) | (go_at_call 160; exact Calls.quiet_of_same (B1.out _ (Yeg _ _)))))
   go_wp2_with fail
   refine (L2.out _ (Yeg _ _)).mono ?_
   rintro e w' ⟨rfl,rfl⟩
   go_wp2_with fail
   refine (F2.out _ (Yeg _ _)).mono ?_
   rintro e w' ⟨rfl,rfl⟩
   go_wp2
   go_ret
   exact ⟨by rw [HR.out]; rfl,(Yd5 _ _).drewN _⟩
  ·have hr := HN.out
   rw [if_pos rfl,if_neg h2] at hr
   have HR := Ydy hr
   clear hr
   have hz : ¬ (0 : Int) < (n2 : Int) := by omega
   go_enter Yes,Yep
   go_wp2
   go_quiet ((first | (go_at_call 159; exact Calls.quiet_of_same (F1.out _ (Yeg _ _))) | (go_at_call 160; exact Calls.quiet_of_same (B1.out _ (Yeg _ _)))))
   go_wp2_with fail
   refine (L2.out _ (Yeg _ _)).mono ?_
   rintro e w' ⟨rfl,rfl⟩
   go_wp2_with fail
   refine (F0.out _ (Yeg _ _)).mono ?_
   rintro e w' ⟨rfl,rfl⟩
   go_wp2
   go_ret
   exact ⟨by rw [HR.out]; rfl,(Yd5 _ _).drewN _⟩
 ·have hvb : (v == 0) = false := beq_eq_false_iff_ne.2 h1
  by_cases h3 : v = c
  ·have hr := HN.out
   rw [if_neg h1,if_pos h3] at hr
   have HR := Ydy hr
   subst h3
   clear hr h1
   go_enter Yes,Yep
   go_wp2
   go_quiet ((first | (go_at_call 159; exact Calls.quiet_of_same (F1.out _ (Yeg _ _))) | (go_at_call 160; exact Calls.quiet_of_same (B1.out _ (Yeg _ _)))))
   go_wp2
   go_ret
   exact ⟨by rw [HR.out]; rfl,(Yd5 _ _).drewN _⟩
  ·have hvc : (v == c) = false := beq_eq_false_iff_ne.2 h3
   have hr := HN.out
   rw [if_neg h1,if_neg h3] at hr
   clear h1 h3
   have KV := Ydy (fun W hs => (H.out.sm hs : Zv own W x l p).key (id:=v) ⟨by omega,by omega⟩)
   have KC := Ydy (fun W hs => (H.out.sm hs : Zv own W x l p).key (id:=c) ⟨by omega,by omega⟩)
   have BB : Hid (∀ W,Sm w W → Calls Ydz 162 #[Pt l.fx,.int .i64 (Kr p c),.int .i64 (Kr p v)] W fun e w' => e = .returned (.bool (Za9 p.fi (Kr p c) (Kr p v))) ∧ Zb No W w') := Ydy (fun W hs => Zmz (H.out.sm hs : Zv own W x l p).fi _ _)
   generalize Za9 p.fi (Kr p c) (Kr p v) = bt at *
   have HR := Ydy hr
   clear hr
   go_enter Yes,Yep
   go_wp2
   go_quiet ((first | (go_at_call 159; exact Calls.quiet_of_same (F1.out _ (Yeg _ _))) | (go_at_call 160; exact Calls.quiet_of_same (B1.out _ (Yeg _ _)))))
   go_wp2
   refine Z4 16 (by kernel_rfl) (by kernel_rfl) ?_
   intro W3 hc3 hf3 hs3 HW3
   have hsm : Sm w W3 := by rw [← HW3.out]; exact ⟨rfl,rfl,rfl,rfl⟩
   have kv := KV.out W3 hsm
   have kc := KC.out W3 hsm
   have HSM := Ydy hsm
   clear hsm
   simp only [Yeu,List.take_zero,Yet,List.drop_zero]
   iterate 16 still_step
   refine wpStill_nil ?_
   go_wp2_with fail
   refine (BB.out W3 HSM.out).mono ?_
   rintro e w4 ⟨rfl,ho4⟩
   have HO4 := Ydy (HSM.out.only.trans ho4 : Zb No w w4)
   clear ho4 kv kc hc3 hf3 hs3 HW3 HSM
   cases bt
   ·go_wp2
    go_ret
    exact ⟨by rw [HR.out]; rfl,HO4.out⟩
   ·go_wp2
    go_ret
    exact ⟨by rw [HR.out]; rfl,HO4.out⟩
end
end Go.Proofs.YtdkhbegheognnaaGreatDoor.W

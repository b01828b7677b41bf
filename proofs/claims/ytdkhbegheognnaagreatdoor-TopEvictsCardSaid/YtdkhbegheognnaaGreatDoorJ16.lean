/- Part of the proof of TopEvicts, joined by a program of the session: Mj Mk Mbc Mbg Mbh Mbi Mbk. -/
import Derived.Test.YtdkhbegheognnaaGreatDoorJ15
import Derived.Test.YtdkhbegheognnaaGreatDoorJ07
import Derived.Test.YtdkhbegheognnaaGreatDoorJ14
import Derived.Test.YtdkhbegheognnaaGreatDoorJ12
namespace Go.Proofs.YtdkhbegheognnaaGreatDoor.W
open Go.RowKit Go.Maps
open _root_.Nat renaming add_le_add_left → Ydz, le_refl → Yd2, ne_of_lt → Yd7
open _root_.Go.Proofs.Tryz renaming prog → Yd0, ntmps83 → Yen, func83 → Yep
open _root_.Go.World renaming block_lt_of_cell? → Yd1
open _root_.List renaming replicate → Yd3, drop_succ_cons → Yd4, take_succ_cons → Yd5, filter_append → Yd6, length_append → Yd9, drop_zero → Yea, take_zero → Yeb, map_cons → Yec, map_append → Yed, mem_append_left → Yee, nodup_nil → Yef, append_assoc → Yeg, filter_cons → Yeh, length_cons → Yei, drop_eq_nil_of_le → Yej, length_replicate → Yek, sum_cons → Yel, mem_cons_self → Yem, nodup_append → Yeo
open Ext renaming refl → Yd8
set_option maxHeartbeats 4000000
set_option maxRecDepth 100000
variable {s' : St}
variable {N i n M K m tx cap op : Nat}
variable {ps : List (List Op)}
variable {t t' : Th}
variable {l : List Int}
variable {own own1 : Nat → Nat}
variable {w1 w2 : World}
variable {L L1 : ML}
variable {v a1 a4 a5 a6 a7 a8 a9 a10 a11 a12 : Value}
variable {R1 R3 : World → Prop}
def Vq (l : List Rec) : List Com := (l.filter (fun r => decide (r.a = 2))).map (·.c)
theorem Zgk (l : List Rec) (r : Rec) : Vq (l ++ [r]) = Vq l ++ (if r.a = 2 then [r.c] else []) := by
 unfold Vq
 rw [Yd6,Yed]
 by_cases h : r.a = 2
 ·simp [h]
 ·simp [h]
def Zj2 : List (Int × Int) → List Com → Option (List (Int × Int))
 | s,[] => some s
 | s,c :: l => if Zec s c = some c then Zj2 (doC s c) l else none
theorem Zrz (l : List Com) (c : Com) : ∀ s,Zj2 s (l ++ [c]) = (match Zj2 s l with | none => none | some s' => if Zec s' c = some c then some (doC s' c) else none) := by
 induction l with
 | nil => intro s; simp [Zj2]
 | cons a l ih =>
  intro s
  rw [List.cons_append,Zj2,Zj2]
  by_cases h : Zec s a = some a
  ·rw [if_pos h,if_pos h,ih]
  ·rw [if_neg h,if_neg h]
theorem Zli : ∀ {l : List Com} {s s' : List (Int × Int)},Zj2 s l = some s' → Vv s l = l.length
 | [],_,_,_ => rfl
 | c :: l,s,s',h => by
  rw [Zj2] at h
  split at h
  ·rename_i e
   rw [Vv,if_pos e,Zli h,Yei]
  ·cases h
structure Zho (s : St) : Prop where
 sp : ∃ S,Zj2 [] (Vq s.recs) = some S ∧ ∀ k,Zk S k = (Zk s.sh.ent k).map (·.v)
theorem Zho.same {s : St} (h : Zho s) (hr : Vq s'.recs = Vq s.recs) (he : s'.sh.ent = s.sh.ent) : Zho s' := by
 obtain ⟨S,h1,h2⟩ := h.sp
 exact ⟨S,by rw [hr]; exact h1,fun k => by rw [he]; exact h2 k⟩
theorem Zho.more {s : St} (h : Zho s) {c : Com} (hr : Vq s'.recs = Vq s.recs ++ [c]) (hm : ∀ S : List (Int × Int),(∀ k,Zk S k = (Zk s.sh.ent k).map (·.v)) → Zec S c = some c ∧ ∀ k,Zk (doC S c) k = (Zk s'.sh.ent k).map (·.v)) : Zho s' := by
 obtain ⟨S,h1,h2⟩ := h.sp
 obtain ⟨m1,m2⟩ := hm S h2
 exact ⟨doC S c,by rw [hr,Zrz,h1]; simp only; rw [if_pos m1],m2⟩
theorem Zar {l : List Rec} {r : Rec} (h : r.a = 2) : Vq (l ++ [r]) = Vq l ++ [r.c] := by rw [Zgk,if_pos h]
theorem Zkt {l : List Rec} {r : Rec} (h : r.a ≠ 2) : Vq (l ++ [r]) = Vq l := by rw [Zgk,if_neg h,List.append_nil]
theorem Zho.step {s : St} (A : X7 N ps s) (h : Zho s) (ht : s.ths[i]? = some t) (tr : Tr s i t s') : Zho s' := by
 have T := A.th i t ht
 cases tr with
 | done => exact h
 | wait3 => exact h
 | wait9 => exact h
 | wait12 => exact h
 | beg hp o ho ph er hb => exact h.same (Zkt (by simp)) rfl
 | full hp hf => exact h.same rfl rfl
 | reserve hp hf => exact h.same rfl rfl
 | back1 hp hl => exact h.same rfl rfl
 | back16 hp hl => exact h.same rfl rfl
 | drain b hp hl => exact h.same rfl rfl
 | lock3 hp hl => exact h.same rfl rfl
 | lock12 hp hl => exact h.same rfl rfl
 | get hp o ho hd c hc =>
  obtain ⟨o',ho',hd',hk',h4',hn'⟩ := T.at_ (by omega)
  rw [ho] at ho'
  cases ho'
  refine h.more (c:=c) (Zar rfl) (fun S hS => ?_)
  have hcd : c.d = 1 := by rw [hc]; show t.com.d = 1; omega
  have hck : c.k = o.k := by rw [hc]; exact hk'
  refine ⟨?_,fun k => ?_⟩
  ·unfold Zec
   rw [if_neg (by omega),if_pos (.inl hcd),hck,hS,hc]
   simp only [Option.some.injEq,Com.mk.injEq]
   refine ⟨by trivial,hk'.symm,by trivial,?_⟩
   cases Zk s.sh.ent o.k <;> rfl
  ·unfold doC
   rw [if_neg (by omega),if_neg (by omega)]
   exact hS k
 | putOld hp o ho hd e he =>
  obtain ⟨o',ho',hd',hk',h4',hn'⟩ := T.at_ (by omega)
  rw [ho] at ho'
  cases ho'
  obtain ⟨b1,_⟩ := hn' (by unfold Zu; omega)
  refine h.more (c:=t.com) (Zar rfl) (fun S hS => ?_)
  rw [b1]
  unfold Yz
  rw [if_pos hd]
  refine ⟨?_,fun k => ?_⟩
  ·unfold Zec
   rw [if_pos hd,hd]
  ·unfold doC
   rw [if_pos hd]
   show Zk (Yn S o.k o.v) k = (Zk (s.sh.put o).ent k).map (·.v)
   have hput : (s.sh.put o).ent = Yn s.sh.ent o.k ⟨o.k,o.v,o.w,e.n⟩ := by unfold Sh.put; rw [he]
   rw [hput,Yv,Yv]
   split
   ·rfl
   ·exact hS k
 | putNew hp o ho hd he =>
  obtain ⟨o',ho',hd',hk',h4',hn'⟩ := T.at_ (by omega)
  rw [ho] at ho'
  cases ho'
  obtain ⟨b1,_⟩ := hn' (by unfold Zu; omega)
  refine h.more (c:=t.com) (Zar rfl) (fun S hS => ?_)
  rw [b1]
  unfold Yz
  rw [if_pos hd]
  refine ⟨?_,fun k => ?_⟩
  ·unfold Zec
   rw [if_pos hd,hd]
  ·unfold doC
   rw [if_pos hd]
   show Zk (Yn S o.k o.v) k = (Zk (s.sh.put o).ent k).map (·.v)
   have hput : (s.sh.put o).ent = Yn s.sh.ent o.k ⟨o.k,o.v,o.w,(s.sh.given : Int) + 1⟩ := by unfold Sh.put; rw [he]
   rw [hput,Yv,Yv]
   split
   ·rfl
   ·exact hS k
 | delHit hp o ho hd e he c hc =>
  obtain ⟨o',ho',hd',hk',h4',hn'⟩ := T.at_ (by omega)
  rw [ho] at ho'
  cases ho'
  have h3 : o.d = 3 := by have := h4' (.inl hp); omega
  have hcd : c.d = 3 := by rw [hc]; show t.com.d = 3; omega
  have hck : c.k = o.k := by rw [hc]; exact hk'
  refine h.more (c:=c) (Zar rfl) (fun S hS => ⟨?_,fun k => ?_⟩)
  ·unfold Zec
   rw [if_neg (by omega),if_pos (.inr hcd),hck,hS,he,hc]
   simp only [Option.some.injEq,Com.mk.injEq]
   exact ⟨by trivial,hk'.symm,by trivial,by trivial⟩
  ·unfold doC
   rw [if_neg (by omega),if_pos (.inl hcd),hck]
   show _ = (Zk (s.sh.remove o.k).ent k).map (·.v)
   have hrem : (s.sh.remove o.k).ent = Xe s.sh.ent o.k := by unfold Sh.remove; rw [he]
   rw [hrem,Xp,Xp]
   split
   ·rfl
   ·exact hS k
 | delMiss hp o ho hd he c hc =>
  obtain ⟨o',ho',hd',hk',h4',hn'⟩ := T.at_ (by omega)
  rw [ho] at ho'
  cases ho'
  have h3 : o.d = 3 := by have := h4' (.inl hp); omega
  have hcd : c.d = 3 := by rw [hc]; show t.com.d = 3; omega
  have hck : c.k = o.k := by rw [hc]; exact hk'
  refine h.more (c:=c) (Zar rfl) (fun S hS => ⟨?_,fun k => ?_⟩)
  ·unfold Zec
   rw [if_neg (by omega),if_pos (.inr hcd),hck,hS,he,hc]
   simp only [Option.some.injEq,Com.mk.injEq]
   exact ⟨by trivial,hk'.symm,by trivial,by trivial⟩
  ·unfold doC
   rw [if_neg (by omega),if_pos (.inl hcd),hck,Xp]
   split
   ·rename_i e; rw [e]; show none = (Zk s.sh.ent o.k).map (·.v); rw [he]; rfl
   ·exact hS k
 | unlock hp ph hu => exact h.same rfl rfl
 | offer hp r hr hq => exact h.same rfl rfl
 | lost hp => exact h.same rfl rfl
 | mark hp => exact h.same rfl rfl
 | ans hp => exact h.same (Zkt (by simp)) rfl
 | reads0 hp hr => exact h.same rfl rfl
 | reads1 hp v hr => exact h.same rfl rfl
 | writes0 hp hq => exact h.same rfl rfl
 | writes1 hp e q hq ph hn => exact h.same rfl rfl
 | evict0 hp hk => exact h.same rfl rfl
 | evict1 hp k hk e he =>
  obtain ⟨f1,_⟩ := A.e1 _ _ he
  refine h.more (c:=⟨4,e.k,e.v,true⟩) (Zar rfl) (fun S hS => ⟨?_,fun j => ?_⟩)
  ·unfold Zec
   have hk' : Zk S e.k = some e.v := by rw [hS,f1,he]; rfl
   simp only [hk']
   rfl
  ·unfold doC
   simp only
   rw [if_neg (show ¬ ((4 : Int) = 2) by decide),if_pos (.inr trivial)]
   show _ = (Zk (s.sh.remove k).ent j).map (·.v)
   have hrem : (s.sh.remove k).ent = Xe s.sh.ent k := by unfold Sh.remove; rw [he]
   rw [hrem,Xp,Xp,f1]
   split
   ·rfl
   ·exact hS j
 | release hp ph hn => exact h.same rfl rfl
 | again hp hc => exact h.same rfl rfl
 | finish hp hc => exact h.same rfl rfl
def Zfl (r : Rec) : Bool := decide (r.a = 2) && decide (r.c.d = 4)
def Zei (l : List Rec) : Nat := (l.filter Zfl).length
theorem Zim (l : List Rec) (r : Rec) : Zei (l ++ [r]) = Zei l + (if Zfl r = true then 1 else 0) := by
 unfold Zei
 rw [Yd6,Yd9]
 by_cases h : Zfl r = true
 ·simp [h]
 ·simp [h]
def Kn (t : Th) : Nat := if t.ph = 14 then t.vic.length - 1 else t.vic.length
structure Zmo (s : St) : Prop where
 out : Zei s.recs + Xv Kn s.ths ≤ ((Xn s.cap s.seed).play s.evs).2.length
theorem Zmo.same {s : St} (h : Zmo s) (ht : s.ths[i]? = some t) (hs : s'.ths = s.ths.set i t') (hr : Zei s'.recs + Kn t' ≤ Zei s.recs + Kn t) (hc : s'.cap = s.cap) (hd : s'.seed = s.seed) (he : s'.evs = s.evs) : Zmo s' := by
 have := Qi Kn t' ht
 have := h.out
 refine ⟨?_⟩
 rw [hc,hd,he,hs]
 omega
theorem Vx {l : List Rec} {r : Rec} (h : r.a ≠ 2 ∨ r.c.d ≠ 4) : Zei (l ++ [r]) = Zei l := by
 rw [Zim]
 have : Zfl r = false := by unfold Zfl; rcases h with h | h <;> simp [h]
 rw [this]
 simp
theorem Y7 (h : t'.vic = t.vic) (h4 : t.ph ≠ 14) : Kn t' ≤ Kn t := by
 unfold Kn
 rw [h,if_neg h4]
 split <;> omega
theorem Zmo.step {s : St} (A : X7 N ps s) (h : Zmo s) (ht : s.ths[i]? = some t) (tr : Tr s i t s') : Zmo s' := by
 have T := A.th i t ht
 have H := h.out
 have acts : t.ph = 4 → t.com.d ≠ 4 := fun hp => by
  obtain ⟨o,_,hd,_,h4,_⟩ := T.at_ (by omega)
  have := h4 (.inl hp)
  omega
 cases tr with
 | done => exact h
 | wait3 => exact h
 | wait9 => exact h
 | wait12 => exact h
 | beg hp o ho ph er hb => exact h.same (t':={ t with com := Yz o,err := er,ph := ph }) ht rfl (by have := Y7 (t:=t) (t':={ t with com := Yz o,err := er,ph := ph }) rfl (by omega); dsimp only [Zl,Z9]; rw [Vx (.inl (by simp))]; omega) rfl rfl rfl
 | full hp hf => exact h.same ht rfl (Ydz (Y7 (t:=t) (by rfl) (by omega)) _) rfl rfl rfl
 | reserve hp hf => exact h.same ht rfl (Ydz (Y7 (t:=t) (by rfl) (by omega)) _) rfl rfl rfl
 | back1 hp hl => exact h.same ht rfl (Ydz (Y7 (t:=t) (by rfl) (by omega)) _) rfl rfl rfl
 | back16 hp hl => exact h.same ht rfl (Ydz (Y7 (t:=t) (by rfl) (by omega)) _) rfl rfl rfl
 | drain b hp hl => exact h.same ht rfl (Ydz (Y7 (t:=t) (by rfl) (by omega)) _) rfl rfl rfl
 | lock3 hp hl => exact h.same ht rfl (Ydz (Y7 (t:=t) (by rfl) (by omega)) _) rfl rfl rfl
 | lock12 hp hl => exact h.same ht rfl (Ydz (Y7 (t:=t) (by rfl) (by omega)) _) rfl rfl rfl
 | get hp o ho hd c hc => exact h.same (t':={ t with com := c,node := ((Zk s.sh.ent o.k).map (·.n)).getD 0,ph := 5 }) ht rfl (by have := Y7 (t:=t) (t':={ t with com := c,node := ((Zk s.sh.ent o.k).map (·.n)).getD 0,ph := 5 }) rfl (by omega); dsimp only [Zl,Z9]; rw [Vx (.inr (by rw [hc]; exact acts hp))]; omega) rfl rfl rfl
 | putOld hp o ho hd e he => exact h.same (t':={ t with ph := 5 }) ht rfl (by have := Y7 (t:=t) (t':={ t with ph := 5 }) rfl (by omega); dsimp only [Zl,Z9]; rw [Vx (.inr (acts hp))]; omega) rfl rfl rfl
 | putNew hp o ho hd he => exact h.same (t':={ t with ph := 5 }) ht rfl (by have := Y7 (t:=t) (t':={ t with ph := 5 }) rfl (by omega); dsimp only [Zl,Z9]; rw [Vx (.inr (acts hp))]; omega) rfl rfl rfl
 | delHit hp o ho hd e he c hc => exact h.same (t':={ t with com := c,ph := 5 }) ht rfl (by have := Y7 (t:=t) (t':={ t with com := c,ph := 5 }) rfl (by omega); dsimp only [Zl,Z9]; rw [Vx (.inr (by rw [hc]; exact acts hp))]; omega) rfl rfl rfl
 | delMiss hp o ho hd he c hc => exact h.same (t':={ t with com := c,ph := 5 }) ht rfl (by have := Y7 (t:=t) (t':={ t with com := c,ph := 5 }) rfl (by omega); dsimp only [Zl,Z9]; rw [Vx (.inr (by rw [hc]; exact acts hp))]; omega) rfl rfl rfl
 | unlock hp ph hu => exact h.same ht rfl (Ydz (Y7 (t:=t) (by rfl) (by omega)) _) rfl rfl rfl
 | offer hp r hr hq => exact h.same ht rfl (Ydz (Y7 (t:=t) (by rfl) (by omega)) _) rfl rfl rfl
 | lost hp => exact h.same ht rfl (Ydz (Y7 (t:=t) (by rfl) (by omega)) _) rfl rfl rfl
 | mark hp => exact h.same ht rfl (Ydz (Y7 (t:=t) (by rfl) (by omega)) _) rfl rfl rfl
 | ans hp => exact h.same (t':={ t with op := t.op + 1,ph := 0 }) ht rfl (by have := Y7 (t:=t) (t':={ t with op := t.op + 1,ph := 0 }) rfl (by omega); dsimp only [Zl,Z9]; rw [Vx (.inl (by simp))]; omega) rfl rfl rfl
 | reads0 hp hr => exact h.same ht rfl (Ydz (Y7 (t:=t) (by rfl) (by omega)) _) rfl rfl rfl
 | reads1 hp v hr =>
  refine ⟨?_⟩
  show Zei s.recs + Xv Kn s.ths ≤ ((Xn s.cap s.seed).play (s.evs ++ [⟨2,v,0,0⟩])).2.length
  rw [Vk]
  simp only [Yd9]
  omega
 | writes0 hp hq => exact h.same ht rfl (Ydz (Y7 (t:=t) (by rfl) (by omega)) _) rfl rfl rfl
 | writes1 hp e q hq ph hn =>
  have hph : ph = 11 ∨ ph = 12 := by unfold Jn at hn; rcases hn with ⟨_,a⟩ | ⟨_,a⟩ <;> omega
  refine ⟨?_⟩
  have hs := Qi Kn { t with vic := (s.pol.step e).2,ph := ph } ht
  have h1 : Kn { t with vic := (s.pol.step e).2,ph := ph } = (s.pol.step e).2.length := by unfold Kn; rw [if_neg (by simp only; omega)]
  show Zei s.recs + Xv Kn (s.ths.set i _) ≤ ((Xn s.cap s.seed).play (s.evs ++ [e])).2.length
  rw [Vk]
  simp only [Yd9]
  rw [← A.pol]
  omega
 | evict0 hp hk => exact h.same ht rfl (Ydz (Y7 (t:=t) (by rfl) (by omega)) _) rfl rfl rfl
 | evict1 hp k hk e he =>
  have hv : 1 ≤ t.vic.length := List.length_pos_iff.2 (T.vic (by omega))
  refine h.same (t':={ t with ph := 14 }) ht rfl ?_ rfl rfl rfl
  have h1 : Kn { t with ph := 14 } = t.vic.length - 1 := by unfold Kn; rw [if_pos rfl]
  have h2 : Kn t = t.vic.length := by unfold Kn; rw [if_neg (by omega)]
  dsimp only [Zl]
  rw [Zim]
  split <;> omega
 | release hp ph hn =>
  have hph : ph = 11 ∨ ph = 12 := by unfold Jn at hn; rcases hn with ⟨_,a⟩ | ⟨_,a⟩ <;> omega
  refine h.same (t':={ t with vic := t.vic.drop 1,ph := ph }) ht rfl (Ydz ?_ _) rfl rfl rfl
  unfold Kn
  rw [if_pos hp,if_neg (by simp only; omega)]
  simp
 | again hp hc => exact h.same ht rfl (Ydz (Y7 (t:=t) (by rfl) (by omega)) _) rfl rfl rfl
 | finish hp hc => exact h.same ht rfl (Ydz (Y7 (t:=t) (by rfl) (by omega)) _) rfl rfl rfl
def Zds (l : List Op) : Nat := (l.map (fun o => o.w.toNat)).sum
def Zbc (t : Th) : Nat := if Zu t then Zds (t.prog.drop (t.op + 1)) else Zds (t.prog.drop t.op)
structure Zmp (M : Nat) (s : St) : Prop where
 w : Ja (s.evs ++ s.wr.q) + (Xv Zbc s.ths : Int) ≤ (M : Int)
theorem Zi8 {l : List Op} {o : Op} (h : l[n]? = some o) : Zds (l.drop n) = o.w.toNat + Zds (l.drop (n + 1)) := by
 have hl : n < l.length := by
  rcases Nat.lt_or_ge n l.length with a | a
  ·exact a
  ·rw [List.getElem?_eq_none a] at h; cases h
 have : l.drop n = o :: l.drop (n + 1) := by
  rw [List.drop_eq_getElem_cons hl]
  rw [List.getElem?_eq_getElem hl] at h
  cases h
  rfl
 rw [this]
 simp only [Zds,Yec,Yel]
theorem Xt (hp : t'.prog = t.prog) (ho : t'.op = t.op) (h : Zu t → Zu t') : Zbc t' ≤ Zbc t := by
 have hd : Zds (t.prog.drop (t.op + 1)) ≤ Zds (t.prog.drop t.op) := by
  cases hg : t.prog[t.op]? with
  | none =>
   have hl : t.prog.length ≤ t.op := List.getElem?_eq_none_iff.1 hg
   rw [Yej hl,Yej (by omega)]
   exact Yd2 _
  | some o => rw [Zi8 hg]; omega
 unfold Zbc
 rw [hp,ho]
 by_cases a : Zu t
 ·rw [if_pos a,if_pos (h a)]; exact Yd2 _
 ·rw [if_neg a]
  split <;> omega
theorem Zmp.same {s : St} (h : Zmp M s) (ht : s.ths[i]? = some t) (hs : s'.ths = s.ths.set i t') (he : Ja (s'.evs ++ s'.wr.q) = Ja (s.evs ++ s.wr.q)) (hl : Zbc t' ≤ Zbc t) : Zmp M s' := by
 have := Qi Zbc t' ht
 have := h.w
 refine ⟨?_⟩
 rw [he,hs]
 omega
theorem Zev (a b : List Ev) : Ja (a ++ b) = Ja a + Ja b := by
 induction a with
 | nil => simp [Ja]
 | cons e l ih => simp only [List.cons_append,Ja,ih]; omega
theorem Zmp.step {s : St} (A : X7 N ps s) (h : Zmp M s) (ht : s.ths[i]? = some t) (tr : Tr s i t s') : Zmp M s' := by
 have T := A.th i t ht
 have act : t.ph = 4 → ∀ (o : Op) (t' : Th),t.prog[t.op]? = some o → t'.prog = t.prog → t'.op = t.op → t'.ph = 5 → Zbc t = o.w.toNat + Zbc t' := fun hp o t' ho h1 h2 h3 => by
  have n1 : ¬ Zu t := by unfold Zu; omega
  have n2 : Zu t' := by unfold Zu; omega
  unfold Zbc
  rw [if_neg n1,if_pos n2,h1,h2,Zi8 ho]
 cases tr with
 | done => exact h
 | wait3 => exact h
 | wait9 => exact h
 | wait12 => exact h
 | beg hp o ho ph er hb => exact h.same ht rfl rfl (Xt rfl rfl (by unfold Zu; simp only; omega))
 | full hp hf => exact h.same ht rfl rfl (Xt rfl rfl (by unfold Zu; first | (intro _; simp; done) | (simp only; omega) | omega))
 | reserve hp hf => exact h.same ht rfl rfl (Xt rfl rfl (by unfold Zu; first | (intro _; simp; done) | (simp only; omega) | omega))
 | back1 hp hl => exact h.same ht rfl rfl (Xt rfl rfl (by unfold Zu; first | (intro _; simp; done) | (simp only; omega) | omega))
 | back16 hp hl => exact h.same ht rfl rfl (Xt rfl rfl (by unfold Zu; first | (intro _; simp; done) | (simp only; omega) | omega))
 | drain b hp hl => exact h.same ht rfl rfl (Xt rfl rfl (by unfold Zu; simp only; omega))
 | lock3 hp hl => exact h.same ht rfl rfl (Xt rfl rfl (by unfold Zu; first | (intro _; simp; done) | (simp only; omega) | omega))
 | lock12 hp hl => exact h.same ht rfl rfl (Xt rfl rfl (by unfold Zu; first | (intro _; simp; done) | (simp only; omega) | omega))
 | get hp o ho hd c hc => exact h.same ht rfl rfl (Xt rfl rfl (by unfold Zu; first | (intro _; simp; done) | (simp only; omega) | omega))
 | putOld hp o ho hd e he =>
  obtain ⟨o',ho',hd',hk',h4',hn'⟩ := T.at_ (by omega)
  rw [ho] at ho'
  cases ho'
  obtain ⟨b1,b2,b3,b4,b5⟩ := hn' (by unfold Zu; omega)
  have hf := act hp o { t with ph := 5 } ho rfl rfl rfl
  have hs := Qi Zbc { t with ph := 5 } ht
  have hw := h.w
  refine ⟨?_⟩
  show Ja (s.evs ++ (s.wr.q ++ [_])) + (Xv Zbc (s.ths.set i _) : Int) ≤ _
  rw [← Yeg,Kq]
  have : evW ⟨3,e.n,o.k,o.w⟩ = o.w := by unfold evW; rw [if_pos (.inr rfl)]
  omega
 | putNew hp o ho hd he =>
  obtain ⟨o',ho',hd',hk',h4',hn'⟩ := T.at_ (by omega)
  rw [ho] at ho'
  cases ho'
  obtain ⟨b1,b2,b3,b4,b5⟩ := hn' (by unfold Zu; omega)
  have hf := act hp o { t with ph := 5 } ho rfl rfl rfl
  have hs := Qi Zbc { t with ph := 5 } ht
  have hw := h.w
  refine ⟨?_⟩
  show Ja (s.evs ++ (s.wr.q ++ [_])) + (Xv Zbc (s.ths.set i _) : Int) ≤ _
  rw [← Yeg,Kq]
  have : evW ⟨1,(s.sh.given : Int) + 1,o.k,o.w⟩ = o.w := by unfold evW; rw [if_pos (.inl rfl)]
  omega
 | delHit hp o ho hd e he c hc =>
  refine h.same (t':={ t with com := c,ph := 5 }) ht rfl ?_ (Xt rfl rfl (by unfold Zu; first | (intro _; simp; done) | (simp only; omega) | omega))
  show Ja (s.evs ++ (s.wr.q ++ [_])) = _
  rw [← Yeg,Kq]
  have : evW ⟨4,e.n,o.k,e.w⟩ = 0 := by unfold evW; simp
  omega
 | delMiss hp o ho hd he c hc => exact h.same ht rfl rfl (Xt rfl rfl (by unfold Zu; first | (intro _; simp; done) | (simp only; omega) | omega))
 | unlock hp ph hu =>
  have hph : ph = 7 ∨ ph = 16 ∨ ph = 6 := by unfold Zp8 at hu; rcases hu with ⟨a,_⟩ | ⟨a,_⟩ | ⟨a,b,_⟩ <;> omega
  exact h.same ht rfl rfl (Xt rfl rfl (by unfold Zu; simp only; omega))
 | offer hp r hr hq => exact h.same ht rfl rfl (Xt rfl rfl (by unfold Zu; first | (intro _; simp; done) | (simp only; omega) | omega))
 | lost hp => exact h.same ht rfl rfl (Xt rfl rfl (by unfold Zu; first | (intro _; simp; done) | (simp only; omega) | omega))
 | mark hp => exact h.same ht rfl rfl (Xt rfl rfl (by unfold Zu; first | (intro _; simp; done) | (simp only; omega) | omega))
 | ans hp =>
  refine h.same (t':={ t with op := t.op + 1,ph := 0 }) ht rfl rfl ?_
  have n1 : Zu t := by unfold Zu; omega
  have n2 : ¬ Zu { t with op := t.op + 1,ph := 0 } := by unfold Zu; simp only; omega
  unfold Zbc
  rw [if_pos n1,if_neg n2]
  exact Yd2 _
 | reads0 hp hr => exact h.same ht rfl rfl (Xt rfl rfl (by unfold Zu; simp only; omega))
 | reads1 hp v hr =>
  have hw := h.w
  refine ⟨?_⟩
  show Ja ((s.evs ++ [⟨2,v,0,0⟩]) ++ s.wr.q) + (Xv Zbc s.ths : Int) ≤ _
  rw [Zev] at hw
  rw [Zev,Kq]
  have : evW ⟨2,v,0,0⟩ = 0 := by unfold evW; simp
  omega
 | writes0 hp hq => exact h.same ht rfl rfl (Xt rfl rfl (by unfold Zu; simp only; omega))
 | writes1 hp e q hq ph hn =>
  have hph : ph = 11 ∨ ph = 12 := by unfold Jn at hn; rcases hn with ⟨_,a⟩ | ⟨_,a⟩ <;> omega
  refine h.same (t':={ t with vic := (s.pol.step e).2,ph := ph }) ht rfl ?_ (Xt rfl rfl (by unfold Zu; simp only; omega))
  show Ja ((s.evs ++ [e]) ++ q) = _
  rw [hq,show (s.evs ++ [e]) ++ q = s.evs ++ e :: q from by simp]
 | evict0 hp hk => exact h.same ht rfl rfl (Xt rfl rfl (by unfold Zu; simp only; omega))
 | evict1 hp k hk e he => exact h.same ht rfl rfl (Xt rfl rfl (by unfold Zu; simp only; omega))
 | release hp ph hn =>
  have hph : ph = 11 ∨ ph = 12 := by unfold Jn at hn; rcases hn with ⟨_,a⟩ | ⟨_,a⟩ <;> omega
  exact h.same ht rfl rfl (Xt rfl rfl (by unfold Zu; simp only; omega))
 | again hp hc => exact h.same ht rfl rfl (Xt rfl rfl (by unfold Zu; simp only; omega))
 | finish hp hc =>
  have hb := T.back
  have hb1 := T.back1 (by omega)
  exact h.same ht rfl rfl (Xt rfl rfl (by unfold Zu; simp only; omega))
structure J9 (N M K : Nat) (ps : List (List Op)) (s : St) : Prop where
 p : Ki N ps s
 r : Zb1 s
 sp : Zho s
 o : Zmo s
 w : Zmp M s
 k : s.recs.length + s.evs.length + Kd s ≤ K
theorem Zzc {s : St} (tr : Tr s i t s') : s'.recs.length + s'.evs.length ≤ s.recs.length + s.evs.length + 1 := by
 cases tr <;> (try simp only [Zl,Z9,Yj,Yr,Yd9,List.length_singleton]) <;> omega
theorem J9.step (hN : N ≤ 60000) {s : St} (h : J9 N M K ps s) (i : Nat) : J9 N M K ps (W.step s i) ∧ Kd (W.step s i) ≤ Kd s := by
 cases ht : s.ths[i]? with
 | none => rw [V4 ht]; exact ⟨h,Yd2 _⟩
 | some t =>
  have tr := h.p.tr ht
  have hc := Zh2 h.p.a ht tr
  have hp := h.p.step hN i
  have hg := Zzc tr
  have hk := h.k
  generalize W.step s i = s' at *
  refine ⟨⟨hp,h.r.step h.p.a ht tr,h.sp.step h.p.a ht tr,h.o.step h.p.a ht tr,h.w.step h.p.a ht tr,?_⟩,?_⟩
  ·rcases hc with hc | ⟨hc,hn⟩
   ·omega
   ·cases hn with
    | done => exact hk
    | wait => exact hk
    | go _ ph u' h1 h2 h3 h4 h5 h6 hw => rw [h5,h6]; omega
  ·rcases hc with hc | ⟨hc,_⟩ <;> omega
theorem Zpt (hN : N ≤ 60000) : ∀ (k n : Nat) {s : St},J9 N M K ps s → J9 N M K ps (Qt l s n k).1 ∧ Kd (Qt l s n k).1 ≤ Kd s
 | 0,_,_,h => ⟨h,Yd2 _⟩
 | k + 1,n,s,h => by
  cases hn : Ql (if l.length = 0 then 0 else l.getD (n % l.length) 0) (Xm s) with
  | none => rw [Ku hn]; exact ⟨h,Yd2 _⟩
  | some j =>
   rw [Zbk hn]
   obtain ⟨h1,h2⟩ := h.step hN j
   obtain ⟨h3,h4⟩ := Zpt hN k (n + 1) h1
   exact ⟨h3,by omega⟩
def Ji (ps : List (List Op)) : Nat := (ps.map List.length).sum
def Zg1 (ps : List (List Op)) : Nat := (ps.map Zds).sum
theorem Zo2 (n : Int) (d : Nat) : ∀ x : Int,1 ≤ x → 1 ≤ upV n d x ∧ upV n d x ≤ x * 2 ^ d := by
 induction d with
 | zero => intro x hx; simp [upV]; omega
 | succ d ih =>
  intro x hx
  unfold upV
  have h1 : (1 : Int) ≤ 2 ^ d := by have : (0 : Int) < 2 ^ d := Int.pow_pos (by decide); omega
  have h2 : (2 : Int) ^ (d + 1) = 2 ^ d * 2 := by rw [Int.pow_succ]
  split
  ·obtain ⟨a,b⟩ := ih (x * 2) (by omega)
   refine ⟨a,?_⟩
   rw [h2,show x * (2 ^ d * 2) = x * 2 * 2 ^ d from by rw [Int.mul_comm (2 ^ d) 2,Int.mul_assoc]]
   exact b
  ·refine ⟨hx,?_⟩
   have : x * 1 ≤ x * 2 ^ (d + 1) := Int.mul_le_mul_of_nonneg_left (by omega) (by omega)
   omega
theorem Zjm (n : Int) : 1 ≤ (Yt n 1 6).toNat ∧ (Yt n 1 6).toNat ≤ 64 := by
 have := Zo2 n 6 1 (by omega)
 unfold Yt
 have h : (1 : Int) * 2 ^ 6 = 64 := by decide
 omega
theorem Ztu (n : Int) : 1 ≤ (Yt n 1 12).toNat ∧ (Yt n 1 12).toNat ≤ 4096 := by
 have := Zo2 n 12 1 (by omega)
 unfold Yt
 have h : (1 : Int) * 2 ^ 12 = 4096 := by decide
 omega
theorem Zf4 {c : Cfg} (h : (Xh c ps).ths[i]? = some t) : ∃ p,ps[i]? = some p ∧ t = ⟨p,0,0,⟨0,0,0,false⟩,0,0,0,[]⟩ := by
 have h' : (ps.map fun p => (⟨p,0,0,⟨0,0,0,false⟩,0,0,0,[]⟩ : Th))[i]? = some t := h
 rw [List.getElem?_map] at h'
 cases hp : ps[i]? with
 | none => rw [hp] at h'; cases h'
 | some p => rw [hp] at h'; cases h'; exact ⟨p,rfl,rfl⟩
theorem Zjy (f : Th → Nat) (c : Cfg) (ps : List (List Op)) : Xv f (Xh c ps).ths = (ps.map fun p => f ⟨p,0,0,⟨0,0,0,false⟩,0,0,0,[]⟩).sum := by
 unfold Xv Xh
 simp only [List.map_map]
 rfl
theorem Yc5 (ps : List (List Op)) : (ps.map fun p => 14 * p.length).sum = 14 * Ji ps := by
 induction ps with
 | nil => rfl
 | cons a l ih => unfold Ji at ih ⊢; simp only [Yec,Yel,ih]; omega
theorem Zuz (n z : Nat) : Qj (Yd3 n ⟨z,[]⟩) = 0 := by
 induction n with
 | zero => rfl
 | succ n ih => unfold Qj at ih ⊢; simp only [List.replicate_succ,Yec,Yel,ih]; rfl
theorem Zln (c : Cfg) (ps : List (List Op)) : Kd (Xh c ps) = 14 * Ji ps := by
 unfold Kd
 rw [Zjy]
 have h1 : (ps.map fun p => Zb7 ⟨p,0,0,⟨0,0,0,false⟩,0,0,0,[]⟩).sum = 14 * Ji ps := Yc5 ps
 rw [h1]
 show 14 * Ji ps + Qj (Yd3 _ ⟨_,[]⟩) + 4 * 0 + 3 * 0 + 0 = _
 rw [Zuz]
 omega
theorem Zvd (p : List Op) : ¬ Zu (⟨p,0,0,⟨0,0,0,false⟩,0,0,0,[]⟩ : Th) := by unfold Zu; simp
theorem Zpi {c : Cfg} (hc : c.cap ≤ 512) (hps : ps.length ≤ 64) : J9 (Ji ps) (Zg1 ps) (14 * Ji ps) ps (Xh c ps) := by
 have hc0 : 0 ≤ (Xh c ps).cap ∧ (Xh c ps).cap ≤ 512 := by show 0 ≤ (if c.cap < 0 then 0 else c.cap) ∧ (if c.cap < 0 then 0 else c.cap) ≤ 512; split <;> omega
 have hn := Zjm c.shards
 have hr := Zjm c.stripes
 have hw := Ztu c.writes
 have hT : ∀ (i : Nat) (t : Th),(Xh c ps).ths[i]? = some t → t.ph = 0 ∧ t.op = 0 ∧ ThA (Xh c ps).cap 0 t := fun i t h => by
  obtain ⟨p,_,rfl⟩ := Zf4 h
  refine ⟨rfl,rfl,⟨Nat.zero_le _,(show (0 : Int) ≤ 0 ∧ (0 : Int) ≤ 16 by decide),fun h => absurd rfl h,fun _ => .inl rfl,fun h => by simp at h,.inl rfl,fun h => by simp at h,(show (0 : Int) ≤ 0 ∧ (0 : Int) ≤ 0 by decide),fun h => by simp at h,fun _ h => (nomatch h)⟩⟩
 refine ⟨⟨⟨hc0,hn,?_,?_,fun i t h => (hT i t h).2.2,Yef,Yef,Yef,fun k e h => (nomatch h),fun k e h => (nomatch h),fun k e h => (nomatch h),⟨fun e h => (nomatch h),Yef⟩,fun _ h => (nomatch h),rfl,fun r hr v hv => ?_,?_⟩,⟨⟨?_,fun k a h => ?_,fun j t k h h2 => ?_⟩,?_,?_⟩,hw.1⟩,⟨?_,_,rfl,fun i t h => ?_⟩,⟨[],rfl,fun k => rfl⟩,⟨?_⟩,⟨?_⟩,?_⟩
 ·show 1 ≤ (Yd3 _ _).length ∧ (Yd3 _ _).length ≤ 64
  rw [Yek]; exact hr
 ·show (ps.map _).map _ = ps
  rw [List.map_map]
  exact List.map_id _
 ·have h1 : r ∈ Yd3 (Yt c.stripes 1 6).toNat (⟨(Yt c.ring 1 12).toNat,[]⟩ : Y8) := hr
  rw [(List.mem_replicate.1 h1).2] at hv
  exact nomatch hv
 ·show 0 + Xv Zal (Xh c ps).ths ≤ _
  rw [Zjy,Nat.zero_add]
  refine Nat.le_of_eq ?_
  unfold Ji
  congr 1
 ·show (Yd3 _ _).length = _; rw [Yek]; rfl
 ·have h1 : (Yd3 ((Yt c.shards 1 6).toNat + 1) ((0 : Int),false))[k]? = some (a,true) := h
  rw [List.getElem?_replicate] at h1
  split at h1 <;> cases h1
 ·have h0 := (hT j t h).1
  unfold Has at h2
  omega
 ·show 0 = Xv Zbx (Xh c ps).ths
  rw [Zcy (fun i t h => Zo (by have := (hT i t h).1; omega))]
 ·show 0 + 0 ≤ _; omega
 ·show (ps.map _).length ≤ 64; rw [List.length_map]; exact hps
 ·exact ⟨(hT i t h).1,(hT i t h).2.1⟩
 ·show 0 + Xv Kn (Xh c ps).ths ≤ 0
  rw [Zcy (fun i t h => ?_)]
  ·exact Yd2 _
  ·obtain ⟨p,_,rfl⟩ := Zf4 h; rfl
 ·show (0 : Int) + ((Xv Zbc (Xh c ps).ths : Nat) : Int) ≤ (Zg1 ps : Int)
  rw [Zjy]
  have : (ps.map fun p => Zbc ⟨p,0,0,⟨0,0,0,false⟩,0,0,0,[]⟩) = ps.map Zds := by
   apply List.map_congr_left
   intro p _
   unfold Zbc
   rw [if_neg (Zvd p)]
   rfl
  rw [this]
  unfold Zg1
  omega
 ·rw [Zln]
  show 0 + 0 + _ ≤ _
  omega
theorem Zfj (l : List Rec) : (Qb (Vq l)).length = Zei l := by
 induction l with
 | nil => rfl
 | cons r l ih =>
  unfold Qb Vq Zei at ih ⊢
  rw [Yeh,Yeh]
  by_cases h : r.a = 2
  ·rw [if_pos (by simpa using h),Yec,Yeh]
   by_cases h4 : r.c.d = 4
   ·rw [if_pos (by simpa using h4),if_pos (by simp [Zfl,h,h4]),Yec,Yei,Yei,ih]
   ·rw [if_neg (by simpa using h4),if_neg (by simp [Zfl,h4]),ih]
  ·rw [if_neg (by simpa using h),if_neg (by simp [Zfl,h]),ih]
theorem Zb1.right {s : St} (h : Zb1 s) : J4 s.recs = true := by
 obtain ⟨x,h1,_⟩ := h.rd
 unfold J4 Zes
 rw [h1]
 rfl
theorem Zb1.commits {s : St} (h : Zb1 s) : Z8 s.recs = Vq s.recs := by
 unfold Z8
 rw [if_pos h.right]
 rfl
theorem Yay {s : St} (h : J9 N M K ps s) :
  ((Xn s.cap s.seed).play s.evs).2.Nodup ∧ (Qb (Z8 s.recs)).length ≤ ((Xn s.cap s.seed).play s.evs).2.length ∧ ((M : Int) ≤ s.cap → ((Xn s.cap s.seed).play s.evs).2 = [] ∧ Zch s.recs = true) := by
 have A := h.p.a
 have hE : Qz s.cap s.evs := by
  have h1 := A.evs
  refine ⟨fun a ha => h1.one a (Yee _ ha),?_⟩
  have h2 := h1.nod
  unfold Y6 at h2 ⊢
  rw [Yd6,Yed] at h2
  exact (Yeo.1 h2).1
 have P := played (seed:=s.seed) A.cap.1 A.cap.2 _ s.evs rfl hE
 have ho : (Qb (Z8 s.recs)).length = Zei s.recs := by rw [h.r.commits,Zfj]
 have hO := h.o.out
 refine ⟨P.nod,by omega,fun hM => ?_⟩
 have hw := h.w.w
 have hq : 0 ≤ Ja s.wr.q := by
  have : ∀ l : List Ev,(∀ e ∈ l,0 ≤ evW e) → 0 ≤ Ja l := by
   intro l
   induction l with
   | nil => intro _; exact Int.le_refl _
   | cons e l ih =>
    intro hl
    have := ih (fun x hx => hl x (List.mem_cons_of_mem _ hx))
    have := hl e Yem
    simp only [Ja]
    omega
  exact this _ (fun e he => Zo5 A.evs (List.mem_append_right _ he))
 rw [Zev] at hw
 have hg := P.fit (by omega)
 refine ⟨hg,?_⟩
 rw [hg] at hO
 simp only [List.length_nil] at hO
 obtain ⟨S,g1,_⟩ := h.sp.sp
 unfold Zch
 rw [h.r.right,h.r.commits,Zfj,Zli g1]
 have : Zei s.recs = 0 := by omega
 rw [this]
 simp
theorem Zxn {T : Nat} (hN : N ≤ 60) {s : St} (h : J9 N M K ps s) (hc : Kd s ≤ 14 * 60) (hT : 1 ≤ T) (hT6 : T ≤ 6) (hs : s.ths.length ≤ T) (hl : l.length = T) (hg : ∀ k,k < T → l.getD k 0 = (k : Int)) (i : Nat) (b : Bool) (hb : (Xm (Qt l s 0 100000).1)[i]? = some b) : b = false := by
 refine Ztg (N:=N) (by omega) hT hl hg (mu s) 0 100000 h.p hs (Yd2 _) ?_ i b hb
 have : Zfp s ≤ 5 := Zzx _ _ _ _ _ _ _ _ _ _ _
 have hm : mu s ≤ 5045 := by unfold mu; omega
 have : T * (mu s + 1) ≤ 6 * 5046 := Nat.mul_le_mul hT6 (by omega)
 omega
theorem Zef : ∀ (g : Nat) (l : List Int),l.Nodup → (∀ x ∈ l,1 ≤ x ∧ x ≤ (g : Int)) → l.length ≤ g
 | 0,l,_,h => by
  cases l with
  | nil => simp
  | cons a r => have := h a Yem; omega
 | g + 1,l,hn,h => by
  have h1 := Zef g (l.erase ((g : Int) + 1)) (hn.erase _) (fun x hx => by
   have hx' := (List.Nodup.mem_erase_iff hn).1 hx
   have := h x hx'.2
   have := hx'.1
   omega)
  have h2 : l.length ≤ (l.erase ((g : Int) + 1)).length + 1 := by
   rw [List.length_erase]
   split <;> omega
  omega
theorem Zb9 {cap : Int} {a b : List Ev} (h : Qz cap (a ++ b)) : Qz cap a := by
 refine ⟨fun x hx => h.one x (Yee _ hx),?_⟩
 have h2 := h.nod
 unfold Y6 at h2 ⊢
 rw [Yd6,Yed] at h2
 exact (Yeo.1 h2).1
theorem X7.played {s : St} (A : X7 N ps s) : Zb3 s.cap s.evs ((Xn s.cap s.seed).play s.evs) :=
 W.played A.cap.1 A.cap.2 _ s.evs rfl (Zb9 A.evs)
theorem X7.polOk {s : St} (A : X7 N ps s) (hN : N ≤ 300) : Zc7 s.pol ∧ s.pol.rw.count ≤ 300 ∧ s.pol.keys.length ≤ 1000 := by
 have P := A.played
 have hl : (Y6 s.evs).length ≤ s.sh.given := by
  refine Zef _ _ (Zb9 A.evs).nod (fun x hx => A.adds x ?_)
  unfold Y6 at hx ⊢
  rw [Yd6,Yed]
  exact Yee _ hx
 have hg := A.giv
 have hc := P.cnt
 have hk := P.inv.len
 rw [A.pol]
 exact ⟨P.inv.ok,by omega,by omega⟩
theorem X7.next {s : St} (A : X7 N ps s) {e : Ev} {q : List Ev} (hq : s.wr.q = e :: q) : Zga s.pol e := by
 have h1 := A.evs
 rw [hq,show s.evs ++ e :: q = (s.evs ++ [e]) ++ q from by simp] at h1
 have := Zf2 (Zb9 h1) A.played
 rw [A.pol]
 exact this
theorem X7.shOk {s : St} (A : X7 N ps s) (hN : N ≤ 60000) : Zge s.sh := by
 have := A.giv
 exact ⟨A.kk,by omega,fun k e h => ⟨(A.e1 k e h).2.1,(A.e1 k e h).2.2.1⟩,fun n k h => by
  obtain ⟨e,h1,h2⟩ := A.e2 n k h
  have := (A.e1 k e h1).2.2.1
  rw [h2] at this
  exact this⟩
def Zhp (s : St) : Prop := ∀ (i : Nat) (t : Th),s.ths[i]? = some t → 10 ≤ t.ph ∧ t.ph ≤ 15 → s.status = 2 ∨ s.status = 3
theorem Zhp.same {s : St} (h : Zhp s) (ht : s.ths[i]? = some t) (hs : s'.ths = s.ths.set i t') (hst : s.status = 2 ∨ s.status = 3 → s'.status = 2 ∨ s'.status = 3) (hp : 10 ≤ t'.ph ∧ t'.ph ≤ 15 → 10 ≤ t.ph ∧ t.ph ≤ 15) : Zhp s' := fun j u hu hr => by
 rw [hs] at hu
 rcases Jf hu with ⟨rfl,rfl⟩ | ⟨_,hj⟩
 ·exact hst (h j t ht (hp hr))
 ·exact hst (h j u hj hr)
theorem Zhp.step {s : St} (P : Ki N ps s) (h : Zhp s) (ht : s.ths[i]? = some t) (tr : Tr s i t s') : Zhp s' := by
 have T := P.a.th i t ht
 cases tr with
 | done => exact h
 | wait3 => exact h
 | wait9 => exact h
 | wait12 => exact h
 | beg hp o ho ph er hb =>
  refine h.same ht rfl (fun e => e) (fun hr => ?_)
  have hr' : 10 ≤ ph ∧ ph ≤ 15 := hr
  rcases hb with e | ⟨e,_⟩ | ⟨e,_⟩ | ⟨e,_⟩ <;> omega
 | full => exact h.same ht rfl (fun e => e) (fun hr => by have hr' : (10 : Int) ≤ 2 ∧ (2 : Int) ≤ 15 := hr; omega)
 | reserve => exact h.same ht rfl (fun e => e) (fun hr => by have hr' : (10 : Int) ≤ 3 ∧ (3 : Int) ≤ 15 := hr; omega)
 | back1 => exact h.same ht rfl (fun e => e) (fun hr => by have hr' : (10 : Int) ≤ 1 ∧ (1 : Int) ≤ 15 := hr; omega)
 | back16 => exact h.same ht rfl (fun e => e) (fun hr => by have hr' : (10 : Int) ≤ 16 ∧ (16 : Int) ≤ 15 := hr; omega)
 | drain => exact fun _ _ _ _ => .inl rfl
 | lock3 => exact h.same ht rfl (fun e => e) (fun hr => by have hr' : (10 : Int) ≤ 4 ∧ (4 : Int) ≤ 15 := hr; omega)
 | lock12 hp => exact h.same ht rfl (fun e => e) (fun _ => by omega)
 | get => exact h.same ht rfl (fun e => e) (fun hr => by have hr' : (10 : Int) ≤ 5 ∧ (5 : Int) ≤ 15 := hr; omega)
 | putOld => exact h.same ht rfl (fun e => e) (fun hr => by have hr' : (10 : Int) ≤ 5 ∧ (5 : Int) ≤ 15 := hr; omega)
 | putNew => exact h.same ht rfl (fun e => e) (fun hr => by have hr' : (10 : Int) ≤ 5 ∧ (5 : Int) ≤ 15 := hr; omega)
 | delHit => exact h.same ht rfl (fun e => e) (fun hr => by have hr' : (10 : Int) ≤ 5 ∧ (5 : Int) ≤ 15 := hr; omega)
 | delMiss => exact h.same ht rfl (fun e => e) (fun hr => by have hr' : (10 : Int) ≤ 5 ∧ (5 : Int) ≤ 15 := hr; omega)
 | unlock hp ph hu =>
  refine h.same ht rfl (fun e => e) (fun hr => ?_)
  have hr' : 10 ≤ ph ∧ ph ≤ 15 := hr
  rcases hu with ⟨e,_⟩ | ⟨e,_⟩ | ⟨e,_⟩ <;> omega
 | offer => exact h.same ht rfl (fun e => e) (fun hr => by have hr' : (10 : Int) ≤ 16 ∧ (16 : Int) ≤ 15 := hr; omega)
 | lost => exact h.same ht rfl (fun e => e) (fun hr => by have hr' : (10 : Int) ≤ 8 ∧ (8 : Int) ≤ 15 := hr; omega)
 | mark =>
  refine h.same ht rfl (fun e => ?_) (fun hr => by have hr' : (10 : Int) ≤ 8 ∧ (8 : Int) ≤ 15 := hr; omega)
  right
  show J5 s.status = 3
  unfold J5
  rcases e with e | e <;> simp [e]
 | ans => exact h.same ht rfl (fun e => e) (fun hr => by have hr' : (10 : Int) ≤ 0 ∧ (0 : Int) ≤ 15 := hr; omega)
 | reads0 hp => exact h.same ht rfl (fun e => e) (fun _ => by omega)
 | reads1 => exact h
 | writes0 hp => exact h.same ht rfl (fun e => e) (fun _ => by omega)
 | writes1 hp => exact h.same ht rfl (fun e => e) (fun _ => by omega)
 | evict0 hp => exact h.same ht rfl (fun e => e) (fun _ => by omega)
 | evict1 hp => exact h.same ht rfl (fun e => e) (fun _ => by omega)
 | release hp => exact h.same ht rfl (fun e => e) (fun _ => by omega)
 | again => exact fun _ _ _ _ => .inl rfl
 | finish hp =>
  intro j u hu hr
  rcases Jf (l:=s.ths) hu with ⟨rfl,rfl⟩ | ⟨hne,hj⟩
  ·have hr' : 10 ≤ t.back ∧ t.back ≤ 15 := hr
   rcases T.back with e | e | e <;> omega
  ·exact absurd (P.one hj ht hr (by omega)) hne
theorem Zu7 {c : Cfg} : Zhp (Xh c ps) := fun i t ht hr => by
 obtain ⟨p,_,rfl⟩ := Zf4 ht
 have hr' : (10 : Int) ≤ 0 ∧ (0 : Int) ≤ 15 := hr
 omega
theorem MBs.then_mq {w : World} {s s2 : St} {k k' m' : Nat} (q : MBs own w w1 L s k m own1 L1) (z : MQ own1 w1 w2 L1 s2 k' m') : MQ own w w2 L s2 (k + k') (m + m') := MQ.next q.ext q.only q.p q.tx q.cn q.wn z
theorem MQ.more {w w' : World} {s : St} {k k' m' : Nat} (h : MQ own w w' L s k m) (hk : k ≤ k') (hm : m ≤ m') : MQ own w w' L s k' m' := by
 obtain ⟨own',L',h1,h2,h3,h4,h5,h6,h7⟩ := h
 exact ⟨own',L',h1,h2,h3,h4,h5,by omega,by omega⟩
theorem J0 {w : World} {s : St} {k : Nat} (h : MQ own w w1 L s k m) (ht : s.ths[i]? = some t) (ph : Int) : Calls Yd0 86 #[Pt (L.tx i),.int .i64 ph] w1 fun e w' => e = .returned (.bool true) ∧ MQ own w w' L (Yk s i t ph) k m := by
 obtain ⟨own1,L1,q⟩ := h.bs
 have z := Kz q.mat ht ph
 rw [q.tx] at z
 exact z.mono fun _ _ r => ⟨r.1,q.then_mq (k':=0) (m':=0) ⟨own1,L1,Yd8 _ _,r.2.1,r.2.2,rfl,rfl,by omega,by omega⟩⟩
theorem Zpk {w : World} {s : St} {k : Nat} (h : MQ own w w1 L s k m) (ht : s.ths[i]? = some t) : Calls Yd0 148 #[Pt (L.tx i)] w1 fun e w' => e = .returned (.bool true) ∧ MQ own w w' L (K3 s i t) k m := by
 obtain ⟨own1,L1,q⟩ := h.bs
 have z := Zye q.mat ht
 rw [q.tx] at z
 exact z.mono fun _ _ r => ⟨r.1,q.then_mq (k':=0) (m':=0) r.2⟩
theorem Zkd {w : World} {a : Int} (h : Zaa own w v (a :: l)) : ∃ g off cap,v = .slice (some ⟨g,off,none⟩) (a :: l).length cap ∧ own g = 8 ∧ w.cell? ⟨g,off,none⟩ = some (.int .i64 a) := by
 rcases h with ⟨_,h⟩ | ⟨g,off,cap,h1,_,h3,_,h5⟩
 ·cases h
 ·exact ⟨g,off,cap,h1,h3,h5 0 a rfl⟩
theorem Zi1 {w : World} {s : St} (h : MAt own w L s) (ht : s.ths[i]? = some t) (hv : t.vic ≠ []) (hi : I64 (t.vic.headD 0)) :
  Calls Yd0 146 #[Pt (L.tx i)] w fun e w' => e = .returned (.int .i64 (s.sh.shard (Jy s t) : Int)) ∧ Sm w w' := by
 have T := h.ths i t ht
 obtain ⟨a,l,hl⟩ : ∃ a l,t.vic = a :: l := by
  cases hh : t.vic with
  | nil => exact absurd hh hv
  | cons a l => exact ⟨a,l,rfl⟩
 have V := T.vic
 rw [hl] at V hi
 obtain ⟨g,off,cap,hvv,_,hc⟩ := Zkd V
 have hk : Jy s t = (Zk s.keys a).getD 0 := by unfold Jy; rw [hl]; rfl
 rw [hk]
 refine Zoe (p:=L.p) (ex:=L.ex) (km:=L.km) (g:=g) (off:=off) (n:=(a :: l).length) (cap:=cap) (v:=a) (key:=(Zk s.keys a).getD 0) (Za T.block rfl) (Za h.parts rfl) (Za h.parts rfl) ((Za T.block rfl).trans (by rw [hvv]; rfl)) (by simp) hc (Ydy fun W hs => ?_) (Ydy fun W hs => ?_)
 ·have z := (h.sm hs).keys.get (t:=60) Tryz.underlying60 (Zjb W) (k:=a) hi
  rw [Zjw] at z
  exact z
 ·exact (Zf9 (h.sm hs).sh _).mono fun _ w' q => ⟨q.1,by
   obtain ⟨m,hm⟩ := q.2
   rw [hm]
   exact hs.trans ⟨rfl,rfl,rfl,rfl⟩⟩
theorem ShC.box1 {w W : World} {s : St} {sh : Sh} {nb : Nat} (hr : ShC own w L s sh W w1) (ho : Zb (Zp6 w W) w1 w2) (hlt : w.heap.size ≤ nb) (hor : nb < W.heap.size ∨ w1.heap.size ≤ nb) : ∃ own2 el,MBs own w w2 L { s with sh := sh } 0 0 own2 { L with el := el } ∧ own2 nb = 7 := by
 obtain ⟨own2,el,q,hx,hsz⟩ := hr
 have hE : Ext w1 own2 (ext own2 w1.heap.size 7) := Jp _ _ _
 have q2 : MBs own w w1 L { s with sh := sh } 0 0 (ext own2 w1.heap.size 7) { L with el := el } := by
  have z := q.go (k':=0) (m':=0) hE (q.mat.kept hE (Zb.refl No w1) (fun _ _ _ h => h)) (Zb.refl No w1) (fun _ _ e => (e : False).elim) rfl rfl (by omega) (by omega)
  exact z
 have ho7 : ∀ b,w.heap.size ≤ b → b < W.heap.size → ext own2 w1.heap.size 7 b = 7 := fun b h1 h2 => by rw [Zz (by omega)]; exact hx b h1 h2
 refine ⟨ext own2 w1.heap.size 7,el,q2.no ho (fun b _ e => ⟨ho7 b e.1 e.2,e.1⟩),?_⟩
 rcases hor with h | h
 ·exact ho7 nb hlt h
 ·exact Jz h
theorem Zqu {w : World} {s : St} (h : MAt own w L s) (ht : s.ths[i]? = some t) (ok : Zge s.sh) (hv : t.vic ≠ []) (hi : I64 (t.vic.headD 0)) (hn : s.recs.length ≤ 1000000) :
  Calls Yd0 147 #[Pt (L.tx i)] w fun e w' => e = .returned (.bool true) ∧ MQ own w w' L (Zew s i t) 0 0 := by
 have T := h.ths i t ht
 obtain ⟨a,l,hl⟩ : ∃ a l,t.vic = a :: l := by
  cases hh : t.vic with
  | nil => exact absurd hh hv
  | cons a l => exact ⟨a,l,rfl⟩
 have V := T.vic
 rw [hl] at V hi
 obtain ⟨g,off,cap,hvv,hg8,hc⟩ := Zkd V
 have hev : Zew s i t = (match s.sh.evict a with | (_,none) => Yk s i t 14 | (sh,some e) => Yk (Z9 { s with sh := sh } ⟨i,-1,2,⟨4,e.k,e.v,true⟩,0⟩) i t 14) := by unfold Zew; rw [hl]; rfl
 have h12 : w.cell? ⟨L.tx i,12,none⟩ = some (.slice (some ⟨g,off,none⟩) (a :: l).length cap) := (Za T.block rfl).trans (by rw [hvv]; rfl)
 have hgl : g < w.heap.size := Yd1 w _ hc
 have hi64 := Zat h ht
 have ox := T.ox
 have hnone : (s.sh.evict a).2 = none → (s.sh.evict a).1 = s.sh := fun hh => by
  unfold Sh.evict at hh ⊢
  cases hk : Zk s.sh.keys a with
  | none => rfl
  | some key => rw [hk] at hh; simp only at hh ⊢; unfold Sh.remove; rw [hh]
 generalize hr : s.sh.evict a = r at *
 obtain ⟨sh,eo⟩ := r
 simp only at hnone
 refine Znb (p:=L.p) (ex:=L.ex) (g:=g) (off:=off) (n:=(a :: l).length) (cap:=cap) (v:=a) (eo.getD Zy) eo.isSome (Za T.block rfl) (Za h.parts rfl) h12 (by simp) hc (Rc:=ShC own w L s sh) (R1:=fun nb w2 => (∃ own2 el,MBs own w w2 L { s with sh := sh } 0 0 own2 { L with el := el }) ∧ w2.heap[nb]? = some (Z0 (eo.getD Zy)))
  (R2:=fun w2 => MQ own w w2 L (match eo with | none => s | some e => Z9 { s with sh := sh } ⟨i,-1,2,⟨4,e.k,e.v,true⟩,0⟩) 0 0) (Ydy fun W hW => ?_) (Ydy fun W w1 w2 n1 _ hR ho hb2 hor hlt => ?_) (Ydy fun nb w2 q => ?_) (Ydy fun w2 q => ?_)
 ·have q := h.old hW
  refine (Zy1 q.mat.sh ok a hi).mono fun _ w1 z => ?_
  obtain ⟨z1,own2,el,z2,z3,z4,z5⟩ := z
  rw [hr] at z1 z3
  have hx12 : W.cell? ⟨L.tx i,12,none⟩ = some (.slice (some ⟨g,off,none⟩) (a :: l).length cap) := Zd h12 hW (fun e => e)
  have hxc : W.cell? ⟨g,off,none⟩ = some (.int .i64 a) := Zd hc hW (fun e => e)
  have o1 : ext own w.heap.size 7 (L.tx i) = 70 + i := (q.mat.ths i t ht).ox
  have o2 : ext own w.heap.size 7 g = 8 := by rw [Zz hgl]; exact hg8
  exact ⟨z1,ShC.of q z2 z3 z5,Zd7 q ht (Bx.new _ _ _) z5 (fun _ e => Zj8 e),Zd hx12 z5 (fun e => by have e' : ShL (ext own w.heap.size 7) (L.tx i) := e; unfold ShL at e'; omega),Zd hxc z5 (fun e => by have e' : ShL (ext own w.heap.size 7) g := e; unfold ShL at e'; omega),Nat.le_trans hW.size z5.size⟩
 ·obtain ⟨own2,el,q,_⟩ := hR.box1 ho hlt hor
  exact ⟨⟨own2,el,q⟩,hb2⟩
 ·obtain ⟨⟨own2,el,q⟩,hb⟩ := q
  refine ⟨hb,fun he => ?_,fun he => ?_⟩
  ·cases eo with
   | none => cases he
   | some e =>
    have z := Zg6 q.mat (s:={ s with sh := sh }) ht hn ⟨i,-1,2,⟨4,e.k,e.v,true⟩,0⟩ rfl
    exact z.mono fun _ _ r => ⟨r.1,q.then_mq r.2⟩
  ·cases eo with
   | some e => cases he
   | none =>
    have e1 := hnone rfl
    subst e1
    exact q.mq
 ·rw [hev]
  cases eo with
  | none => exact J0 q ht 14
  | some e => exact J0 (s:=Z9 { s with sh := sh } ⟨i,-1,2,⟨4,e.k,e.v,true⟩,0⟩) q ht 14
section
attribute [local go_sem] World.setCell_drew Zg Zf
theorem Zmy {w : World} {a : Option Addr} (c3 : w.cell? ⟨tx,3,none⟩ = some (.int .i64 (n : Int))) (c2 : w.cell? ⟨tx,2,none⟩ = some (.slice a n cap)) :
  Calls Yd0 83 #[Pt tx] w fun e w' => e = .returned (.bool false) ∧ Sm w w' := by
 go_enter Yep,Yen
 go_wp2
 go_quiet (fail)
 go_wp2
 go_ret
 exact ⟨rfl,rfl,rfl,rfl,rfl⟩
theorem Ztb {w : World} {g : Nat} (o : Op) {c : Com} (c2 : w.cell? ⟨tx,2,none⟩ = some (.slice (some ⟨g,0,none⟩) n cap)) (c3 : w.cell? ⟨tx,3,none⟩ = some (.int .i64 (op : Int))) (hop : op < n) (g0 : w.cell? ⟨g,op * 4,none⟩ = some (.int .i64 o.d)) (g1 : w.cell? ⟨g,op * 4 + 1,none⟩ = some (.int .i64 o.k)) (g2 : w.cell? ⟨g,op * 4 + 2,none⟩ = some (.int .i64 o.v)) (g3 : w.cell? ⟨g,op * 4 + 3,none⟩ = some (.int .i64 o.w)) {R2 : World → Prop}
  (HD : Hid (∀ W,Zb No w W → (o.d = 1 → Calls Yd0 136 #[Pt tx,opA o] W fun e w' => e = .returned (.tuple #[]) ∧ R1 w') ∧ (o.d = 2 → Calls Yd0 137 #[Pt tx,opA o] W fun e w' => e = .returned (.tuple #[]) ∧ R1 w') ∧ (o.d ≠ 1 → o.d ≠ 2 → Calls Yd0 138 #[Pt tx,opA o] W fun e w' => e = .returned (.tuple #[]) ∧ R1 w')))
  (H1 : Hid (∀ w1,R1 w1 → ∀ W,Sm w1 W → W.cell? ⟨tx,3,none⟩ = some (.int .i64 (op : Int)) ∧ W.cell? ⟨tx,5,none⟩ = some (.int .i64 c.d) ∧ W.cell? ⟨tx,6,none⟩ = some (.int .i64 c.k) ∧ W.cell? ⟨tx,7,none⟩ = some (.int .i64 c.v) ∧ W.cell? ⟨tx,8,none⟩ = some (.bool c.h) ∧ Calls Yd0 127 #[Pt tx,.int .i64 (op : Int),.int .i64 2,.agg #[.int .i64 c.d,.int .i64 c.k,.int .i64 c.v,.bool c.h],.int .i64 0] W fun e w' => e = .returned (.tuple #[]) ∧ R2 w'))
  (H2 : Hid (∀ w2,R2 w2 → Calls Yd0 86 #[Pt tx,.int .i64 5] w2 fun e w' => e = .returned (.bool true) ∧ R3 w')) :
  Calls Yd0 90 #[Pt tx] w fun e w' => e = .returned (.bool true) ∧ R3 w' := by
 unfold opA at HD
 have hop1 : (op : Int) < (n : Int) := by omega
 have hop0 : (0 : Int) ≤ (op : Int) := by omega
 go_enter Tryz.func90,Tryz.ntmps90
 go_wp2
 have htx : tx ≠ w.heap.size := Yd7 (Yd1 w _ c3)
 have htx2 := Ne.symm htx
 have hgx : g ≠ w.heap.size := Yd7 (Yd1 w _ g0)
 have hgx2 := Ne.symm hgx
 go_region_held3 (fun w' => w'.cell? ⟨tx,2,none⟩ = some (.slice (some ⟨g,0,none⟩) n cap) ∧ w'.cell? ⟨tx,3,none⟩ = some (.int .i64 (op : Int)) ∧ w'.cell? ⟨g,op * 4,none⟩ = some (.int .i64 o.d) ∧ w'.cell? ⟨g,op * 4 + 1,none⟩ = some (.int .i64 o.k) ∧ w'.cell? ⟨g,op * 4 + 2,none⟩ = some (.int .i64 o.v) ∧ w'.cell? ⟨g,op * 4 + 3,none⟩ = some (.int .i64 o.w)) (go_keep) (fail)
 have ho : Zb No w (w.alloc (opO o)).drew := ((Zb.refl No w).alloc _).drew
 have hb : (w.alloc (opO o)).drew.heap[w.heap.size]? = some (opO o) := Zh w (opO o)
 have HDW := Ydy (HD.out _ ho)
 unfold opO at hb HDW
 obtain ⟨b0,b1,b2,b3,-⟩ := Yh hb
 clear HD ho hb c2 c3 g0 g1 g2 g3 hgx hgx2
 generalize w.heap.size = nb at *
 generalize (w.alloc _).drew = wb at *
 by_cases h1 : o.d = 1
 ·have d1 : (o.d == 1) = true := by simpa using h1
  have C1 := Ydy (HDW.out.1 h1)
  clear h1
  go_wp2_with fail
  refine (C1.out).mono ?_
  rintro e w1 ⟨rfl,h1⟩
  have H1' := Ydy (H1.out w1 h1)
  clear H1 C1 h1 b0 b1 b2 b3 HDW
  go_wp2
  refine Z4 9 (by kernel_rfl) (by kernel_rfl) ?_
  intro W hcW hfW hsW HW
  obtain ⟨k3,k5,k6,k7,k8,C2⟩ := H1'.out W (by rw [← HW.out]; exact ⟨rfl,rfl,rfl,rfl⟩)
  have C2' := Ydy C2
  clear H1' C2 hcW hfW hsW HW
  simp only [Yd5,Yeb,Yd4,Yea]
  iterate 9 still_step
  refine wpStill_nil ?_
  go_wp2_with fail
  refine (C2'.out).mono ?_
  rintro e w2 ⟨rfl,h2⟩
  have H2' := Ydy (H2.out w2 h2)
  clear H2 C2' h2 k3 k5 k6 k7 k8
  go_wp2_with fail
  refine (H2'.out).mono ?_
  rintro e w3 ⟨rfl,h3⟩
  go_wp2
  go_ret
  exact ⟨rfl,h3⟩
 ·have d1 : (o.d == 1) = false := by simpa using h1
  by_cases h2 : o.d = 2
  ·have d2 : (o.d == 2) = true := by simpa using h2
   have C1 := Ydy (HDW.out.2.1 h2)
   clear h1 h2
   go_wp2_with fail
   refine (C1.out).mono ?_
   rintro e w1 ⟨rfl,h1⟩
   have H1' := Ydy (H1.out w1 h1)
   clear H1 C1 h1 b0 b1 b2 b3 HDW
   go_wp2
   refine Z4 9 (by kernel_rfl) (by kernel_rfl) ?_
   intro W hcW hfW hsW HW
   obtain ⟨k3,k5,k6,k7,k8,C2⟩ := H1'.out W (by rw [← HW.out]; exact ⟨rfl,rfl,rfl,rfl⟩)
   have C2' := Ydy C2
   clear H1' C2 hcW hfW hsW HW
   simp only [Yd5,Yeb,Yd4,Yea]
   iterate 9 still_step
   refine wpStill_nil ?_
   go_wp2_with fail
   refine (C2'.out).mono ?_
   rintro e w2 ⟨rfl,h2⟩
   have H2' := Ydy (H2.out w2 h2)
   clear H2 C2' h2 k3 k5 k6 k7 k8
   go_wp2_with fail
   refine (H2'.out).mono ?_
   rintro e w3 ⟨rfl,h3⟩
   go_wp2
   go_ret
   exact ⟨rfl,h3⟩
  ·have d2 : (o.d == 2) = false := by simpa using h2
   have C1 := Ydy (HDW.out.2.2 h1 h2)
   clear h1 h2
   go_wp2_with fail
   refine (C1.out).mono ?_
   rintro e w1 ⟨rfl,h1⟩
   have H1' := Ydy (H1.out w1 h1)
   clear H1 C1 h1 b0 b1 b2 b3 HDW
   go_wp2
   refine Z4 9 (by kernel_rfl) (by kernel_rfl) ?_
   intro W hcW hfW hsW HW
   obtain ⟨k3,k5,k6,k7,k8,C2⟩ := H1'.out W (by rw [← HW.out]; exact ⟨rfl,rfl,rfl,rfl⟩)
   have C2' := Ydy C2
   clear H1' C2 hcW hfW hsW HW
   simp only [Yd5,Yeb,Yd4,Yea]
   iterate 9 still_step
   refine wpStill_nil ?_
   go_wp2_with fail
   refine (C2'.out).mono ?_
   rintro e w2 ⟨rfl,h2⟩
   have H2' := Ydy (H2.out w2 h2)
   clear H2 C2' h2 k3 k5 k6 k7 k8
   go_wp2_with fail
   refine (H2'.out).mono ?_
   rintro e w3 ⟨rfl,h3⟩
   go_wp2
   go_ret
   exact ⟨rfl,h3⟩
theorem Zkl {w : World} {p g : Nat} (o : Op) (hb : w.heap[tx]? = some (.cells #[Pt p,a1,.slice (some ⟨g,0,none⟩) n cap,.int .i64 (op : Int),a4,a5,a6,a7,a8,a9,a10,a11,a12] 74 (0,0))) (hop : op < n) (g0 : w.cell? ⟨g,op * 4,none⟩ = some (.int .i64 o.d)) (g1 : w.cell? ⟨g,op * 4 + 1,none⟩ = some (.int .i64 o.k)) (g2 : w.cell? ⟨g,op * 4 + 2,none⟩ = some (.int .i64 o.v)) (g3 : w.cell? ⟨g,op * 4 + 3,none⟩ = some (.int .i64 o.w)) 
  (HB : Hid (∀ W,Zb (fun b => b = tx) w W → W.heap[tx]? = some (.cells #[Pt p,a1,.slice (some ⟨g,0,none⟩) n cap,.int .i64 (op : Int),a4,.int .i64 o.d,.int .i64 o.k,.int .i64 0,.bool false,.int .i64 0,a10,a11,a12] 74 (0,0)) → W.heap[w.heap.size]? = some (opO o) → Calls Yd0 127 #[Pt tx,.int .i64 (op : Int),.int .i64 1,.agg #[.int .i64 o.d,.int .i64 o.k,.int .i64 0,.bool false],.int .i64 0] W fun e w' => e = .returned (.tuple #[]) ∧ R1 w' ∧ w'.cell? ⟨tx,9,none⟩ = some (.int .i64 0) ∧ w'.frozen? ⟨tx,9,none⟩ = false ∧ w'.heap[w.heap.size]? = some (opO o)))
  (hd : o.d ≠ 2)
  (HG : Hid (∀ w1 ph,R1 w1 → ((o.d = 1 ∧ ph = 3) ∨ (o.d = 3 ∧ ph = 1) ∨ (o.d = 4 ∧ ph = 9)) → Calls Yd0 86 #[Pt tx,.int .i64 ph] w1 fun e w' => e = .returned (.bool true) ∧ R3 w'))
  (HX : Hid (∀ w1,R1 w1 → ¬ (o.d = 1 ∨ o.d = 2 ∨ o.d = 3 ∨ o.d = 4) → Calls Yd0 86 #[Pt tx,.int .i64 16] (w1.setCell ⟨tx,9,none⟩ (.int .i64 1)) fun e w' => e = .returned (.bool true) ∧ R3 w')) :
  Calls Yd0 83 #[Pt tx] w fun e w' => e = .returned (.bool true) ∧ R3 w' := by
 have d2 : (o.d == 2) = false := by simpa using hd
 have hop1 : (op : Int) < (n : Int) := by omega
 have hop0 : (0 : Int) ≤ (op : Int) := by omega
 have hopn : ((op : Int) == (n : Int)) = false := by simp; omega
 have c2 : w.cell? ⟨tx,2,none⟩ = some (.slice (some ⟨g,0,none⟩) n cap) := Za hb rfl
 have c3 : w.cell? ⟨tx,3,none⟩ = some (.int .i64 (op : Int)) := Za hb rfl
 have hb1 := Ydy hb
 clear hb
 go_enter Yep,Yen
 go_wp2
 go_quiet (fail)
 go_wp2
 have hs : Sm w (w.drewN nq) := ⟨rfl,rfl,rfl,rfl⟩
 have hb2 := Ydy (hs.block hb1.out)
 replace g0 := (hs.cell _).trans g0
 replace g1 := (hs.cell _).trans g1
 replace g2 := (hs.cell _).trans g2
 replace g3 := (hs.cell _).trans g3
 replace c2 := (hs.cell _).trans c2
 replace c3 := (hs.cell _).trans c3
 clear hb1
 revert hs g0 g1 g2 g3 c2 c3 hb2
 generalize w.drewN nq = u
 intro hs hb2 g0 g1 g2 g3 c2 c3
 have htx : tx ≠ u.heap.size := Yd7 (Yd1 u _ c3)
 have htx2 := Ne.symm htx
 have hgx : g ≠ u.heap.size := Yd7 (Yd1 u _ g0)
 have hgx2 := Ne.symm hgx
 go_region_held3 (fun w' => w'.cell? ⟨tx,2,none⟩ = some (.slice (some ⟨g,0,none⟩) n cap) ∧ w'.cell? ⟨tx,3,none⟩ = some (.int .i64 (op : Int)) ∧ w'.cell? ⟨g,op * 4,none⟩ = some (.int .i64 o.d) ∧ w'.cell? ⟨g,op * 4 + 1,none⟩ = some (.int .i64 o.k) ∧ w'.cell? ⟨g,op * 4 + 2,none⟩ = some (.int .i64 o.v) ∧ w'.cell? ⟨g,op * 4 + 3,none⟩ = some (.int .i64 o.w)) (go_keep) (fail)
 have ho : Zb No w (u.alloc (opO o)).drew := hs.only.trans ((Zb.refl No u).alloc _).drew
 have hob : (u.alloc (opO o)).drew.heap[u.heap.size]? = some (opO o) := Zh u (opO o)
 have hb3 : (u.alloc (opO o)).drew.heap[tx]? = _ := Zm hb2.out
 rw [hs.size] at *
 unfold opO at *
 clear g0 g1 g2 g3 c2 c3 hb2 hgx hgx2 hs
 generalize (u.alloc _).drew = v at *
 obtain ⟨b0,b1,b2,b3,-⟩ := Yh hob
 have f5 := Zc hb3 5
 have f6 := Zc hb3 6
 have f7 := Zc hb3 7
 have f8 := Zc hb3 8
 have f9 := Zc hb3 9
 have c0 := Za (j:=0) hb3 rfl
 have c3 := Za (j:=3) hb3 rfl
 have c5 := Za (j:=5) hb3 rfl
 have c6 := Za (j:=6) hb3 rfl
 have c7 := Za (j:=7) hb3 rfl
 have c8 := Za (j:=8) hb3 rfl
 have c9 := Za (j:=9) hb3 rfl
 have HOB := Ydy hob
 have HB3 := Ydy hb3
 clear hob hb3
 go_wp2
 refine Z4 9 (by kernel_rfl) (by kernel_rfl) ?_
 intro W hcW hfW hsW HW
 have hsm : Sm (((((v.setCell ⟨tx,5,none⟩ (.int .i64 o.d)).setCell ⟨tx,6,none⟩ (.int .i64 o.k)).setCell ⟨tx,7,none⟩ (.int .i64 0)).setCell ⟨tx,8,none⟩ (.bool false)).setCell ⟨tx,9,none⟩ (.int .i64 0)) W := by rw [← HW.out]; exact ⟨rfl,rfl,rfl,rfl⟩
 have HBW := Ydy (HB.out W (Sm.then_only (((((((Zb.no ho).setCell (S:=fun b => b = tx) (.inl rfl) _).setCell (.inl rfl) _).setCell (.inl rfl) _).setCell (.inl rfl) _).setCell (.inl rfl) _)) hsm) (hsm.block (Zj (Zj (Zj (Zj (Zj HB3.out 5 _) 6 _) 7 _) 8 _) 9 _)) (hsm.block (Z7 (Z7 (Z7 (Z7 (Z7 HOB.out htx2 5 _) htx2 6 _) htx2 7 _) htx2 8 _) htx2 9 _)))
 have hbl := hsm.block (Zj (Zj (Zj (Zj (Zj HB3.out 5 _) 6 _) 7 _) 8 _) 9 _)
 have k3 := Za (j:=3) hbl rfl
 have k5 := Za (j:=5) hbl rfl
 have k6 := Za (j:=6) hbl rfl
 have k7 := Za (j:=7) hbl rfl
 have k8 := Za (j:=8) hbl rfl
 clear hbl hsm HB hcW hfW hsW HW c0 c3 c5 c6 c7 c8 c9 f5 f6 f7 f8 f9 b0 b1 b2 b3 HB3 HOB
 simp only [Yd5,Yeb,Yd4,Yea]
 iterate 9 still_step
 refine wpStill_nil ?_
 go_wp2_with fail
 refine (HBW.out).mono ?_
 rintro e w1 ⟨rfl,h1,k9,kf9,hbx⟩
 obtain ⟨b0,b1,b2,b3,-⟩ := Yh hbx
 clear hbx HBW k3 k5 k6 k7 k8
 by_cases e1 : o.d = 1
 ·have d1 : (o.d == 1) = true := by simpa using e1
  have G := Ydy (HG.out w1 3 h1 (.inl ⟨e1,rfl⟩))
  clear HG HX h1 e1 hd
  go_wp2_with fail
  refine (G.out).mono ?_
  rintro e w3 ⟨rfl,h3⟩
  go_wp2
  go_ret
  exact ⟨rfl,h3⟩
 ·have d1 : (o.d == 1) = false := by simpa using e1
  by_cases e3 : o.d = 3
  ·have d3 : (o.d == 3) = true := by simpa using e3
   have G := Ydy (HG.out w1 1 h1 (.inr (.inl ⟨e3,rfl⟩)))
   clear HG HX h1 e1 e3 hd
   go_wp2_with fail
   refine (G.out).mono ?_
   rintro e w3 ⟨rfl,h3⟩
   go_wp2
   go_ret
   exact ⟨rfl,h3⟩
  ·have d3 : (o.d == 3) = false := by simpa using e3
   by_cases e4 : o.d = 4
   ·have d4 : (o.d == 4) = true := by simpa using e4
    have G := Ydy (HG.out w1 9 h1 (.inr (.inr ⟨e4,rfl⟩)))
    clear HG HX h1 e1 e3 e4 hd
    go_wp2_with fail
    refine (G.out).mono ?_
    rintro e w3 ⟨rfl,h3⟩
    go_wp2
    go_ret
    exact ⟨rfl,h3⟩
   ·have d4 : (o.d == 4) = false := by simpa using e4
    have G := Ydy (HX.out w1 h1 (by omega))
    clear HG HX h1 e1 e3 e4 hd
    go_wp2_with fail
    refine (G.out).mono ?_
    rintro e w3 ⟨rfl,h3⟩
    go_wp2
    go_ret
    exact ⟨rfl,h3⟩
theorem Zqh {w : World} {p g : Nat} (o : Op) (hb : w.heap[tx]? = some (.cells #[Pt p,a1,.slice (some ⟨g,0,none⟩) n cap,.int .i64 (op : Int),a4,a5,a6,a7,a8,a9,a10,a11,a12] 74 (0,0))) (hop : op < n) (g0 : w.cell? ⟨g,op * 4,none⟩ = some (.int .i64 o.d)) (g1 : w.cell? ⟨g,op * 4 + 1,none⟩ = some (.int .i64 o.k)) (g2 : w.cell? ⟨g,op * 4 + 2,none⟩ = some (.int .i64 o.v)) (g3 : w.cell? ⟨g,op * 4 + 3,none⟩ = some (.int .i64 o.w)) (hpt : p ≠ tx) {cp er : Int} (hcp : w.cell? ⟨p,0,none⟩ = some (.int .i64 cp)) 
  (HB : Hid (∀ W,Zb (fun b => b = tx) w W → W.heap[tx]? = some (.cells #[Pt p,a1,.slice (some ⟨g,0,none⟩) n cap,.int .i64 (op : Int),a4,.int .i64 o.d,.int .i64 o.k,.int .i64 o.v,.bool false,.int .i64 er,a10,a11,a12] 74 (0,0)) → W.heap[w.heap.size]? = some (opO o) → Calls Yd0 127 #[Pt tx,.int .i64 (op : Int),.int .i64 1,.agg #[.int .i64 o.d,.int .i64 o.k,.int .i64 o.v,.bool false],.int .i64 0] W fun e w' => e = .returned (.tuple #[]) ∧ R1 w' ∧ w'.cell? ⟨tx,9,none⟩ = some (.int .i64 er) ∧ w'.frozen? ⟨tx,9,none⟩ = false ∧ w'.heap[w.heap.size]? = some (opO o)))
  (HA : Hid (∀ W,Zb (fun b => b = tx) w W → Calls Yd0 126 #[.int .i64 o.k,.int .i64 o.w,.int .i64 cp] W fun e w1 => ∃ ei,e = .returned ei ∧ Zb No W w1 ∧ Calls Yd0 125 #[ei] w1 fun e w2 => e = .returned (.int .i64 er) ∧ Zb No w1 w2))
  (hd : o.d = 2)
  (HG : Hid (∀ w1 ph,R1 w1 → ((er ≠ 0 ∧ ph = 16) ∨ (er = 0 ∧ ph = 1)) → Calls Yd0 86 #[Pt tx,.int .i64 ph] w1 fun e w' => e = .returned (.bool true) ∧ R3 w')) :
  Calls Yd0 83 #[Pt tx] w fun e w' => e = .returned (.bool true) ∧ R3 w' := by
 have d2 : (o.d == 2) = true := by simpa using hd
 have d1 : (o.d == 1) = false := by simp [hd]
 clear hd
 have hop1 : (op : Int) < (n : Int) := by omega
 have hop0 : (0 : Int) ≤ (op : Int) := by omega
 have hopn : ((op : Int) == (n : Int)) = false := by simp; omega
 have c2 : w.cell? ⟨tx,2,none⟩ = some (.slice (some ⟨g,0,none⟩) n cap) := Za hb rfl
 have c3 : w.cell? ⟨tx,3,none⟩ = some (.int .i64 (op : Int)) := Za hb rfl
 have hb1 := Ydy hb
 clear hb
 go_enter Yep,Yen
 go_wp2
 go_quiet (fail)
 go_wp2
 have hs : Sm w (w.drewN nq) := ⟨rfl,rfl,rfl,rfl⟩
 have hb2 := Ydy (hs.block hb1.out)
 replace g0 := (hs.cell _).trans g0
 replace g1 := (hs.cell _).trans g1
 replace g2 := (hs.cell _).trans g2
 replace g3 := (hs.cell _).trans g3
 replace c2 := (hs.cell _).trans c2
 replace c3 := (hs.cell _).trans c3
 clear hb1
 revert hs g0 g1 g2 g3 c2 c3 hb2
 generalize w.drewN nq = u
 intro hs hb2 g0 g1 g2 g3 c2 c3
 have htx : tx ≠ u.heap.size := Yd7 (Yd1 u _ c3)
 have htx2 := Ne.symm htx
 have hgx : g ≠ u.heap.size := Yd7 (Yd1 u _ g0)
 have hgx2 := Ne.symm hgx
 go_region_held3 (fun w' => w'.cell? ⟨tx,2,none⟩ = some (.slice (some ⟨g,0,none⟩) n cap) ∧ w'.cell? ⟨tx,3,none⟩ = some (.int .i64 (op : Int)) ∧ w'.cell? ⟨g,op * 4,none⟩ = some (.int .i64 o.d) ∧ w'.cell? ⟨g,op * 4 + 1,none⟩ = some (.int .i64 o.k) ∧ w'.cell? ⟨g,op * 4 + 2,none⟩ = some (.int .i64 o.v) ∧ w'.cell? ⟨g,op * 4 + 3,none⟩ = some (.int .i64 o.w)) (go_keep) (fail)
 have ho : Zb No w (u.alloc (opO o)).drew := hs.only.trans ((Zb.refl No u).alloc _).drew
 have hob : (u.alloc (opO o)).drew.heap[u.heap.size]? = some (opO o) := Zh u (opO o)
 have hb3 : (u.alloc (opO o)).drew.heap[tx]? = _ := Zm hb2.out
 rw [hs.size] at *
 unfold opO at *
 clear g0 g1 g2 g3 c2 c3 hb2 hgx hgx2 hs
 generalize (u.alloc _).drew = v at *
 obtain ⟨b0,b1,b2,b3,-⟩ := Yh hob
 have f5 := Zc hb3 5
 have f6 := Zc hb3 6
 have f7 := Zc hb3 7
 have f8 := Zc hb3 8
 have f9 := Zc hb3 9
 have c0 := Za (j:=0) hb3 rfl
 have c3 := Za (j:=3) hb3 rfl
 have c5 := Za (j:=5) hb3 rfl
 have c6 := Za (j:=6) hb3 rfl
 have c7 := Za (j:=7) hb3 rfl
 have c8 := Za (j:=8) hb3 rfl
 have c9 := Za (j:=9) hb3 rfl
 have cpv : v.cell? ⟨p,0,none⟩ = some (.int .i64 cp) := Zd hcp ho (fun h => h)
 have hpt2 := Ne.symm hpt
 have hnp : w.heap.size ≠ p := Ne.symm (Yd7 (Yd1 w _ hcp))
 have hnp2 := Ne.symm hnp
 have HOB := Ydy hob
 have HB3 := Ydy hb3
 clear hob hb3
 go_wp2
 have HO5 : Hid (Zb (fun b => b = tx) w ((((((v.setCell ⟨tx,5,none⟩ (.int .i64 o.d)).setCell ⟨tx,6,none⟩ (.int .i64 o.k)).setCell ⟨tx,7,none⟩ (.int .i64 0)).setCell ⟨tx,8,none⟩ (.bool false)).setCell ⟨tx,9,none⟩ (.int .i64 0)).setCell ⟨tx,7,none⟩ (.int .i64 o.v))) := Ydy (((((((Zb.no ho).setCell (S:=fun b => b = tx) (.inl rfl) _).setCell (.inl rfl) _).setCell (.inl rfl) _).setCell (.inl rfl) _).setCell (.inl rfl) _).setCell (.inl rfl) _)
 have HT5 : Hid (((((((v.setCell ⟨tx,5,none⟩ (.int .i64 o.d)).setCell ⟨tx,6,none⟩ (.int .i64 o.k)).setCell ⟨tx,7,none⟩ (.int .i64 0)).setCell ⟨tx,8,none⟩ (.bool false)).setCell ⟨tx,9,none⟩ (.int .i64 0)).setCell ⟨tx,7,none⟩ (.int .i64 o.v)).heap[tx]? = some (.cells #[Pt p,a1,.slice (some ⟨g,0,none⟩) n cap,.int .i64 (op : Int),a4,.int .i64 o.d,.int .i64 o.k,.int .i64 o.v,.bool false,.int .i64 0,a10,a11,a12] 74 (0,0))) := Ydy (Zj (Zj (Zj (Zj (Zj (Zj HB3.out 5 _) 6 _) 7 _) 8 _) 9 _) 7 _)
 have HN5 : Hid (((((((v.setCell ⟨tx,5,none⟩ (.int .i64 o.d)).setCell ⟨tx,6,none⟩ (.int .i64 o.k)).setCell ⟨tx,7,none⟩ (.int .i64 0)).setCell ⟨tx,8,none⟩ (.bool false)).setCell ⟨tx,9,none⟩ (.int .i64 0)).setCell ⟨tx,7,none⟩ (.int .i64 o.v)).heap[w.heap.size]? = some (.cells #[.int .i64 o.d,.int .i64 o.k,.int .i64 o.v,.int .i64 o.w] 44)) := Ydy (Z7 (Z7 (Z7 (Z7 (Z7 (Z7 HOB.out htx2 5 _) htx2 6 _) htx2 7 _) htx2 8 _) htx2 9 _) htx2 7 _)
 have HP5 : ((((((v.setCell ⟨tx,5,none⟩ (.int .i64 o.d)).setCell ⟨tx,6,none⟩ (.int .i64 o.k)).setCell ⟨tx,7,none⟩ (.int .i64 0)).setCell ⟨tx,8,none⟩ (.bool false)).setCell ⟨tx,9,none⟩ (.int .i64 0)).setCell ⟨tx,7,none⟩ (.int .i64 o.v)).cell? ⟨p,0,none⟩ = some (.int .i64 cp) := Zi (Zi (Zi (Zi (Zi (Zi cpv (Y2 hpt2)) (Y2 hpt2)) (Y2 hpt2)) (Y2 hpt2)) (Y2 hpt2)) (Y2 hpt2)
 clear c0 c3 c5 c6 c7 c8 c9 f5 f6 f7 f8 f9 b0 b1 b2 b3 HB3 HOB cpv
 revert HO5 HT5 HN5 HP5
 generalize (((((v.setCell ⟨tx,5,none⟩ (.int .i64 o.d)).setCell ⟨tx,6,none⟩ (.int .i64 o.k)).setCell ⟨tx,7,none⟩ (.int .i64 0)).setCell ⟨tx,8,none⟩ (.bool false)).setCell ⟨tx,9,none⟩ (.int .i64 0)).setCell ⟨tx,7,none⟩ (.int .i64 o.v) = v5
 intro HO5 HT5 HN5 HP5
 obtain ⟨b0,b1,b2,b3,-⟩ := Yh HN5.out
 have c0 := Za (j:=0) HT5.out rfl
 have c9 := Za (j:=9) HT5.out rfl
 have f9 := Zc HT5.out 9
 go_region_held3 (fun w' => w'.cell? ⟨tx,0,none⟩ = some (Pt p) ∧ w'.cell? ⟨p,0,none⟩ = some (.int .i64 cp) ∧ w'.cell? ⟨w.heap.size,1,none⟩ = some (.int .i64 o.k) ∧ w'.cell? ⟨w.heap.size,3,none⟩ = some (.int .i64 o.w)) (go_keep)
  (first | (go_at_call 126; refine (HA.out v5.drew HO5.out.drew).mono ?_; rintro e w6 ⟨ei,rfl,ho6,hc6⟩; have i0 := Zd (S:=No) (w:=v5.drew) c0 ho6 (fun h => h); have ip := Zd (S:=No) (w:=v5.drew) HP5 ho6 (fun h => h); have i1 := Zd (S:=No) (w:=v5.drew) b1 ho6 (fun h => h); have i3 := Zd (S:=No) (w:=v5.drew) b3 ho6 (fun h => h); have HC6 := Ydy hc6; have HO6 := Ydy ho6; clear hc6 ho6) | (go_at_call 125; refine (HC6.out).mono ?_; rintro e w7 ⟨rfl,ho7⟩; have j0 := Zd (S:=No) i0 ho7 (fun h => h); have jp := Zd (S:=No) ip ho7 (fun h => h); have j1 := Zd (S:=No) i1 ho7 (fun h => h); have j3 := Zd (S:=No) i3 ho7 (fun h => h); have HO7 := Ydy (HO6.out.trans ho7); have j9 := Zd (S:=No) (w:=v5.drew) c9 HO7.out (fun h => h); have jf := Zc (Zb.kept (S:=No) (w:=v5.drew) HO7.out HT5.out (fun h => h)) 9; have jn : ∀ u,(w7.setCell ⟨tx,9,none⟩ u).cell? ⟨tx,0,none⟩ = some (Pt p) := (fun u => Zi j0 (Zp9 (by decide))); clear ho7))
 have HT7 : Hid ((w7.setCell ⟨tx,9,none⟩ (.int .i64 er)).heap[tx]? = some (.cells #[Pt p,a1,.slice (some ⟨g,0,none⟩) n cap,.int .i64 (op : Int),a4,.int .i64 o.d,.int .i64 o.k,.int .i64 o.v,.bool false,.int .i64 er,a10,a11,a12] 74 (0,0))) := Ydy (Zj (Zb.kept (S:=No) (w:=v5.drew) HO7.out HT5.out (fun h => h)) 9 _)
 have HN7 : Hid ((w7.setCell ⟨tx,9,none⟩ (.int .i64 er)).heap[w.heap.size]? = some (.cells #[.int .i64 o.d,.int .i64 o.k,.int .i64 o.v,.int .i64 o.w] 44)) := Ydy (Z7 (Zb.kept (S:=No) (w:=v5.drew) HO7.out HN5.out (fun h => h)) htx2 9 _)
 have HO8 : Hid (Zb (fun b => b = tx) w (w7.setCell ⟨tx,9,none⟩ (.int .i64 er))) := Ydy ((Zb.trans HO5.out.drew (Zb.no HO7.out)).setCell (.inl rfl) _)
 clear HT5 HN5 HO5 HO7 HO6 HC6 HA HP5 b0 b1 b2 b3 c0 c9 f9 i0 ip i1 i3 j0 jp j1 j3 j9 jf jn
 revert HT7 HN7 HO8
 generalize w7.setCell ⟨tx,9,none⟩ (.int .i64 er) = v8
 intro HT7 HN7 HO8
 obtain ⟨b0,b1,b2,b3,-⟩ := Yh HN7.out
 have c0 := Za (j:=0) HT7.out rfl
 go_wp2
 refine Z4 9 (by kernel_rfl) (by kernel_rfl) ?_
 intro W hcW hfW hsW HW
 have hsm : Sm (v8) W := by rw [← HW.out]; exact ⟨rfl,rfl,rfl,rfl⟩
 have HBW := Ydy (HB.out W (Sm.then_only (HO8.out) hsm) (hsm.block (HT7.out)) (hsm.block (HN7.out)))
 have hbl := hsm.block (HT7.out)
 have k3 := Za (j:=3) hbl rfl
 have k5 := Za (j:=5) hbl rfl
 have k6 := Za (j:=6) hbl rfl
 have k7 := Za (j:=7) hbl rfl
 have k8 := Za (j:=8) hbl rfl
 clear hbl hsm HB hcW hfW hsW HW c0 b0 b1 b2 b3 HT7 HN7 HO8
 simp only [Yd5,Yeb,Yd4,Yea]
 iterate 9 still_step
 refine wpStill_nil ?_
 go_wp2_with fail
 refine (HBW.out).mono ?_
 rintro e w1 ⟨rfl,h1,k9,kf9,hbx⟩
 obtain ⟨b0,b1,b2,b3,-⟩ := Yh hbx
 clear hbx HBW k3 k5 k6 k7 k8
 by_cases e1 : er = 0
 ·have d1 : (er != 0) = false := by simpa using e1
  have d0 : (er == 0) = true := by simpa using e1
  have G := Ydy (HG.out w1 1 h1 (.inr ⟨e1,rfl⟩))
  clear HG h1 e1
  go_wp2_with fail
  refine (G.out).mono ?_
  rintro e w3 ⟨rfl,h3⟩
  go_wp2
  go_ret
  exact ⟨rfl,h3⟩
 ·have d1 : (er != 0) = true := by simpa using e1
  have d0 : (er == 0) = false := by simpa using e1
  have G := Ydy (HG.out w1 16 h1 (.inl ⟨e1,rfl⟩))
  clear HG h1 e1
  go_wp2_with fail
  refine (G.out).mono ?_
  rintro e w3 ⟨rfl,h3⟩
  go_wp2
  go_ret
  exact ⟨rfl,h3⟩
end
theorem MBs.c0 {w : World} {s : St} {k : Nat} (q : MBs own w w1 L s k m own1 L1) (ht : s.ths[i]? = some t) : w1.cell? ⟨L.tx i,0,none⟩ = some (Pt L.p) := by
 rw [← q.p]
 exact Za (q.cells ht).1 rfl
theorem Zix (s : St) (i : Nat) (t t' : Th) : Zl (Zl s i t) i t' = Zl s i t' := by simp [Zl]
theorem MBs.slice {w : World} {s : St} {k : Nat} (q : MBs own w w1 L s k m own1 L1) (ht : s.ths[i]? = some t) (hv : Zaa own1 w1 v l) {W : World} (hs : Sm (w1.setCell ⟨L.tx i,12,none⟩ v) W) : ∃ L2,MBs own w W L (Zl s i { t with vic := l }) k m own1 L2 := by
 have U := q.mat.ths i t ht
 have ox := U.ox
 have hi := Zat q.mat ht
 have e := q.tx
 rw [e] at ox
 have ho : Zb (fun b => b = L.tx i) w1 (w1.setCell ⟨L.tx i,12,none⟩ v) := (Zb.refl (fun b => b = L.tx i) w1).setCell (.inl rfl) _
 have ho' : Zb (fun b => b = L1.tx i) w1 (w1.setCell ⟨L.tx i,12,none⟩ v) := by rw [e]; exact ho
 obtain ⟨c1,-⟩ := q.cells ht
 have hb : (w1.setCell ⟨L.tx i,12,none⟩ v).heap[L1.tx i]? = some (thC { L1 with vv := fun j => if j = i then v else L1.vv j } i { t with vic := l }) := by
  rw [e]
  refine (Zj c1 12 v).trans ?_
  unfold thC
  simp only [if_true]
  rfl
 have hv' : Zaa own1 (w1.setCell ⟨L.tx i,12,none⟩ v) v l := hv.kept (Yd8 _ _) ho (fun b _ h8 e' => by have e'' : b = L.tx i := e'; rw [e''] at h8; omega)
 have m := q.mat.thread (L':={ L1 with vv := fun j => if j = i then v else L1.vv j }) (t':={ t with vic := l }) ht (Yd8 _ _) ho' (by simp) hb rfl (by simpa using hv')
 refine ⟨_,(q.go (k':=0) (m':=0) (Yd8 _ _) m ho (fun b _ e' => .inl (by have e'' : b = L.tx i := e'; rw [e'']; omega)) rfl rfl (by simp) (by simp)).sm hs⟩
theorem Zwl {w : World} {s : St} (h : MAt own w L s) (ht : s.ths[i]? = some t) (hev : ∀ e q,s.wr.q = e :: q → Zga s.pol e ∧ I64 e.n) (ok : Zc7 s.pol) (hc : s.pol.rw.count ≤ 300) (hk : s.pol.keys.length ≤ 1000) (hn : s.evs.length ≤ 1000000) (hgv : s.sh.given ≤ 60000) :
  Calls Yd0 145 #[Pt (L.tx i)] w fun e w' => e = .returned (.bool true) ∧ MQ own w w' L (Zft s i t) 0 0 := by
 have T := h.ths i t ht
 cases hq : s.wr.q with
 | nil =>
  rw [show Zft s i t = Yk s i t 15 from by unfold Zft; rw [hq]]
  refine Zon (p:=L.p) (wx:=L.wx) (R1:=fun w1 => MQ own w w1 L s 0 0) (Za T.block rfl) (Za h.parts rfl) (Ydy ((Zmh h.wr hq).mono fun r w' q => ⟨q.1,own,L,Yd8 _ _,h.writes (Yd8 _ _) q.2.2 q.2.1,q.2.2.mono (fun b _ e => by have e' : own b = 60 ∨ own b = 61 := e; show own b ≠ 19; omega),rfl,rfl,by omega,by omega⟩)) (Ydy fun w1 W q hW => ?_)
  obtain ⟨own1,L1,q⟩ := q.bs
  exact J0 ((q.no hW (fun _ _ e => (e : False).elim)).mq) ht 15
 | cons e q0 =>
  have hst : Zft s i t = K3 (Yj { s with wr := { s.wr with q := q0 } } e) i { t with vic := (s.pol.step e).2 } := by unfold Zft; rw [hq]
  rw [hst]
  obtain ⟨he,hi⟩ := hev e q0 hq
  refine Zoo (p:=L.p) (wx:=L.wx) e (R1:=fun w1 => MQ own w w1 L { s with wr := { s.wr with q := q0 } } 0 0)
   (R2:=fun v nb w2 => ∃ own2 L2,MBs own w w2 L (Yj { s with wr := { s.wr with q := q0 } } e) 0 0 own2 L2 ∧ Zaa own2 w2 v (s.pol.step e).2 ∧ own2 nb = 7 ∧ w2.heap[nb]? = some (.cells #[.int .i64 e.d,.int .i64 e.n,.int .i64 e.k,.int .i64 e.w] 93))
   (R4:=fun w4 => MQ own w w4 L (Zl (Yj { s with wr := { s.wr with q := q0 } } e) i { t with vic := (s.pol.step e).2 }) 0 0) (Za T.block rfl) (Za h.parts rfl) (Ydy ((Zmi h.wr hq).mono fun r w' q => ⟨q.1,own,L,Yd8 _ _,h.writes (Yd8 _ _) q.2.2 q.2.1,q.2.2.mono (fun b _ e => by have e' : own b = 60 ∨ own b = 61 := e; show own b ≠ 19; omega),rfl,rfl,by omega,by omega⟩)) (Ydy fun w1 q => ?_) (Ydy fun v nb w2 q => ?_) (Ydy fun W q => ?_)
  ·obtain ⟨own1,L1,q⟩ := q.bs
   have hE : Ext w1 own1 (ext own1 w1.heap.size 7) := Jp _ _ _
   have hal : Zb No w1 (w1.alloc (.cells #[.int .i64 e.d,.int .i64 e.n,.int .i64 e.k,.int .i64 e.w] 93)) := (Zb.refl No w1).alloc _
   have q2 := q.go (k':=0) (m':=0) hE (q.mat.kept hE hal (fun _ _ _ h => h)) hal (fun _ _ e => (e : False).elim) rfl rfl (by omega) (by omega)
   have z := Zh6 q2.mat (s:={ s with wr := { s.wr with q := q0 } }) ht hn ok hc hk e he
   rw [q2.tx] at z
   refine z.mono fun r w' y => ?_
   obtain ⟨v,rfl,own3,L3,y1,y2,y3⟩ := y
   have h7 : ext own1 w1.heap.size 7 w1.heap.size = 7 := Jz (Yd2 _)
   have hbx := y3.kept (Zh w1 (.cells #[.int .i64 e.d,.int .i64 e.n,.int .i64 e.k,.int .i64 e.w] 93)) (fun hx => hx h7)
   have h73 : own3 w1.heap.size = 7 := (y1.ext _ (Ze (Zh w1 _))).trans h7
   have y4 := q2.go (k':=0) (m':=0) y1.ext y1.mat y1.only (fun b _ hx => .inl hx) y1.p y1.tx (by have := y1.cn; omega) (by have := y1.wn; omega)
   have hvs : ∃ a n c,v = .slice a n c := by
    rcases y2 with ⟨hh,_⟩ | ⟨g,off,cap,hh,_⟩
    ·exact ⟨_,_,_,hh⟩
    ·exact ⟨_,_,_,hh⟩
   obtain ⟨a,n,c,rfl⟩ := hvs
   exact ⟨a,n,c,rfl,own3,L3,y4,y2,h73,hbx⟩
  ·obtain ⟨own2,L2,q,qv,q7,qb⟩ := q
   obtain ⟨c1,-⟩ := q.cells ht
   have ox := (q.mat.ths i t ht).ox
   rw [q.tx] at ox
   have hne : L.tx i ≠ nb := fun e' => by rw [e',q7] at ox; have := Zat q.mat ht; omega
   refine ⟨⟨_,Za c1 rfl⟩,Zc c1 12,fun W hs => ?_⟩
   obtain ⟨L4,z⟩ := q.slice ht qv hs
   obtain ⟨-,d2⟩ := z.cells (Xo (s:=Yj { s with wr := { s.wr with q := q0 } } e) ht _)
   have hbW := hs.block (Z7 qb (Ne.symm hne) 12 v)
   refine ⟨L4.ex,z.c0 (Xo (s:=Yj { s with wr := { s.wr with q := q0 } } e) ht _),Za d2 rfl,Za hbW rfl,Za hbW rfl,fun _ => ?_,fun _ => z.mq⟩
   refine (Ybf z.mat.sh hgv e.n hi).mono fun r w' y => ?_
   obtain ⟨n,el,rfl,y1,y2,y3⟩ := y
   exact ⟨⟨n,rfl⟩,(z.shards (Yd8 _ _) y1 y3).mq⟩
  ·have z := Zpk q (Xo (s:=Yj { s with wr := { s.wr with q := q0 } } e) ht { t with vic := (s.pol.step e).2 })
   refine z.mono fun _ _ r => ⟨r.1,?_⟩
   have hh : K3 (Zl (Yj { s with wr := { s.wr with q := q0 } } e) i { t with vic := (s.pol.step e).2 }) i { t with vic := (s.pol.step e).2 } = K3 (Yj { s with wr := { s.wr with q := q0 } } e) i { t with vic := (s.pol.step e).2 } := by
    unfold K3 Yk
    simp only [Zix]
   rw [← hh]
   exact r.2
theorem Zxs {w : World} {s : St} (h : MAt own w L s) (ht : s.ths[i]? = some t) (hcn : L.cn + 3 ≤ 1000000) (hl : s.locks[s.sh.n]? = some ((i : Int),true)) (hst : s.status = 2 ∨ s.status = 3) :
  Calls Yd0 149 #[Pt (L.tx i)] w fun e w' => e = .returned (.bool true) ∧ MQ own w w' L (Zkz s i t) 3 0 := by
 have S1 : Hid (Calls Yd0 95 #[Pt (L.tx i)] w fun e w' => e = .returned (.int .i64 s.status) ∧ MQ own w w' L s 1 0) := Ydy (Zdq h ht (by omega))
 have HT : ∀ v : Int,∀ w1,MQ own w w1 L s 1 0 → Calls Yd0 93 #[Pt (L.tx i),.int .i64 v] w1 fun e w' => e = .returned (.tuple #[]) ∧ MQ own w w' L { s with status := v } 2 0 := fun v w1 q => by
  obtain ⟨own1,L1,q⟩ := q.bs
  have hn := q.cn
  have z := Zj5 q.mat ht (by omega) v
  rw [q.tx] at z
  exact z.mono fun _ _ r => ⟨r.1,q.then_mq (k':=1) (m':=0) r.2⟩
 by_cases hc : 0 < Qj s.rings ∨ 0 < s.wr.q.length ∨ s.status = 3
 ·rw [show Zkz s i t = Yk { s with status := 2 } i t 10 from by unfold Zkz; rw [if_pos hc]]
  refine Zqr (n1:=Qj s.rings) (n2:=s.wr.q.length) (p:=L.p) hc S1 (Ydy fun w1 q => ?_) (Ydy (HT 2)) (Ydy fun w2 q => ?_) (R1:=fun w1 => MQ own w w1 L s 1 0) (R2:=fun w1 => MQ own w w1 L { s with status := 2 } 2 0)
  ·obtain ⟨own1,L1,q⟩ := q.bs
   obtain ⟨-,d2⟩ := q.cells ht
   exact ⟨L1.rx,L1.wx,q.c0 ht,Za d2 rfl,Za d2 rfl,Zz0 q.mat.st,Zmg q.mat.wr⟩
  ·exact (J0 q ht 10).mono fun _ _ r => ⟨r.1,r.2.more (by omega) (by omega)⟩
 ·have hs : s.status = 2 := by omega
  have hz : Qj s.rings = 0 := by omega
  have hw : s.wr.q.length = 0 := by omega
  rw [show Zkz s i t = Yk (Yr { s with status := 0 } s.sh.n) i t t.back from by unfold Zkz; rw [if_neg hc]]
  refine Zt8 (p:=L.p) (th:=(i : Int)) (n:=(s.sh.n : Int)) (back:=t.back) (by omega) (by omega) S1 (Ydy fun w1 q => ?_) (Ydy (HT 0)) (Ydy fun w2 q => ?_) (Ydy fun w2 q => ?_) (R1:=fun w1 => MQ own w w1 L s 1 0) (R2:=fun w1 => MQ own w w1 L { s with status := 0 } 2 0) (R3:=fun w1 => MQ own w w1 L (Yr { s with status := 0 } s.sh.n) 3 0)
  ·obtain ⟨own1,L1,q⟩ := q.bs
   obtain ⟨-,d2⟩ := q.cells ht
   have a := Zz0 q.mat.st
   have b := Zmg q.mat.wr
   rw [hz] at a
   rw [hw] at b
   exact ⟨L1.rx,L1.wx,q.c0 ht,Za d2 rfl,Za d2 rfl,a,b⟩
  ·obtain ⟨own1,L1,q⟩ := q.bs
   obtain ⟨d1,d2⟩ := q.cells ht
   have hn := q.cn
   refine ⟨L1.cx,q.c0 ht,Za d1 rfl,Za d2 rfl,fun W hs => ⟨?_,?_⟩⟩
   ·have z := Vr (q.mat.sm hs)
    rw [q.p] at z
    exact z
   ·refine (Zgh (q.mat.sm hs).ce (by omega) hl).mono fun _ w' r => ?_
    have m := q.mat.sm hs
    have T := m.ths i t ht
    have ox := T.ox
    have op := m.op
    obtain ⟨own3,he,hcx,ho⟩ := r.2
    have nt : ¬ Own own1 64 68 (L1.tx i) := fun e => by have e1 : 64 ≤ own1 (L1.tx i) ∧ own1 (L1.tx i) < 68 := e; omega
    have np : ¬ Own own1 64 68 L1.p := fun e => by have e1 : 64 ≤ own1 L1.p ∧ own1 L1.p < 68 := e; omega
    have z := q.mat.ceq hs r.2 (Yd2 _)
    rw [← q.tx,← q.p]
    exact ⟨r.1,q.then_mq (k':=1) (m':=0) z,Zd (w:=W) (Za T.block rfl) ho nt,Zd (w:=W) (Za T.block rfl) ho nt,Zd (w:=W) (Za m.parts rfl) ho np,Zd (w:=W) (Za T.block rfl) ho nt⟩
  ·exact (J0 q ht t.back).mono fun _ _ r => ⟨r.1,r.2⟩
end Go.Proofs.YtdkhbegheognnaaGreatDoor.W

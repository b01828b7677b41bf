/- Part of the proof of TopEvicts, joined by a program of the session: Mb Pla Mc Mbb Maev. -/
import Derived.Test.YtdkhbegheognnaaGreatDoorJ01
import Derived.Test.YtdkhbegheognnaaGreatDoorJ09
import Derived.Test.YtdkhbegheognnaaGreatDoorJ12
namespace Go.Proofs.YtdkhbegheognnaaGreatDoor.W
open Go.RowKit Go.Maps
open _root_.List renaming getElem_cons_succ → Ydz, getElem_cons_zero → Yd0, getElem_toArray → Yd1, setIfInBounds_toArray → Yd2, set_cons_succ → Yd3, set_cons_zero → Yd4, mem_append_right → Yd5, mem_append_left → Yd6, map_cons → Yd7, mem_cons_self → Yd8, nodup_nil → Yd9, map_append → Yea, perm_iff_count → Yeb, count_append → Yed, nodup_append → Yee, mem_map → Yef, nodup_cons → Yeg, mem_cons → Yei, length_nil → Yej, length_append → Yek, sum_cons → Yel, getElem?_set → Yem, length_eq_zero_iff → Yen, count_cons → Yeo, mem_append → Yep, count_nil → Yeq, getElem?_eq_none → Yer, filter_append → Yes, take_add_one → Yet
open _root_.Or renaming inl → Yec
open _root_.Int renaming le_refl → Yeh
set_option maxHeartbeats 4000000
set_option maxRecDepth 100000
variable {s s1 : St}
variable {i k g m : Nat}
variable {t t' : Th}
variable {id v seed : Int}
variable {l : List Nw}
variable {q : Pol × List Int}
variable {ps : List (List Op)}
variable {own own' own1 own2 : Nat → Nat}
variable {w w' w1 w2 W : World}
variable {L L1 : ML}
variable {S : Nat → Prop}
variable {el : Ya}
variable {sh : Sh}
def Zhu (cap : Int) (o : Op) (ph er : Int) : Prop :=
 ph = 16 ∨ (ph = 3 ∧ o.d = 1 ∧ er = 0) ∨ (ph = 1 ∧ ((o.d = 2 ∧ 0 ≤ o.w ∧ o.w ≤ cap) ∨ o.d = 3) ∧ er = 0) ∨ (ph = 9 ∧ o.d = 4 ∧ er = 0)
def Yz (o : Op) : Com := ⟨o.d,o.k,if o.d = 2 then o.v else 0,false⟩
def Zp8 (c : Com) (ph : Int) : Prop := (ph = 7 ∧ (c.d = 2 ∨ (c.d ≠ 1 ∧ c.h = true))) ∨ (ph = 16 ∧ c.d ≠ 2 ∧ c.h = false) ∨ (ph = 6 ∧ c.d = 1 ∧ c.h = true)
def Jn (v : List Int) (ph : Int) : Prop := (v = [] ∧ ph = 11) ∨ (v ≠ [] ∧ ph = 12)
inductive Tr (s : St) (i : Nat) (t : Th) : St → Prop
 | done (h : t.ph = 0) (ho : t.prog[t.op]? = none) : Tr s i t s
 | wait3 (h : t.ph = 3) (hl : Xr s (s.sh.shard t.com.k) = true) : Tr s i t s
 | wait9 (h : t.ph = 9) (hl : Xr s s.sh.n = true) : Tr s i t s
 | wait12 (h : t.ph = 12) (hl : Xr s (s.sh.shard (Jy s t)) = true) : Tr s i t s
 | beg (h : t.ph = 0) (o : Op) (ho : t.prog[t.op]? = some o) (ph er : Int) (hb : Zhu s.cap o ph er) : Tr s i t (Zl (Z9 s ⟨i,t.op,1,Yz o,0⟩) i { t with com := Yz o,err := er,ph := ph })
 | full (h : t.ph = 1) (hf : s.wr.q.length + s.wr.res = s.wr.size) : Tr s i t (Zl s i { t with ph := 2 })
 | reserve (h : t.ph = 1) (hf : s.wr.q.length + s.wr.res ≠ s.wr.size) : Tr s i t (Zl { s with wr := { s.wr with res := s.wr.res + 1 } } i { t with ph := 3 })
 | back1 (h : t.ph = 2) (hl : Xr s s.sh.n = true) : Tr s i t (Zl s i { t with ph := 1 })
 | back16 (h : t.ph = 8) (hl : Xr s s.sh.n = true) : Tr s i t (Zl s i { t with ph := 16 })
 | drain (b : Int) (h : (t.ph = 2 ∧ b = 1) ∨ ((t.ph = 8 ∨ t.ph = 9) ∧ b = 16)) (hl : Xr s s.sh.n = false) : Tr s i t (Zl { s with locks := s.locks.set s.sh.n ((i : Int),true),status := 2 } i { t with back := b,ph := 10 })
 | lock3 (h : t.ph = 3) (hl : Xr s (s.sh.shard t.com.k) = false) : Tr s i t (Zl { s with locks := s.locks.set (s.sh.shard t.com.k) ((i : Int),true) } i { t with ph := 4 })
 | lock12 (h : t.ph = 12) (hl : Xr s (s.sh.shard (Jy s t)) = false) : Tr s i t (Zl { s with locks := s.locks.set (s.sh.shard (Jy s t)) ((i : Int),true) } i { t with ph := 13 })
 | get (h : t.ph = 4) (o : Op) (ho : t.prog[t.op]? = some o) (hd : o.d = 1) (c : Com) (hc : c = { t.com with v := ((Zk s.sh.ent o.k).map (·.v)).getD 0,h := (Zk s.sh.ent o.k).isSome }) : Tr s i t (Zl (Z9 s ⟨i,t.op,2,c,0⟩) i { t with com := c,node := ((Zk s.sh.ent o.k).map (·.n)).getD 0,ph := 5 })
 | putOld (h : t.ph = 4) (o : Op) (ho : t.prog[t.op]? = some o) (hd : o.d = 2) (e : Ent) (he : Zk s.sh.ent o.k = some e) : Tr s i t (Zl { s with sh := s.sh.put o,wr := { s.wr with res := s.wr.res - 1,q := s.wr.q ++ [⟨3,e.n,o.k,o.w⟩] },recs := s.recs ++ [⟨i,t.op,2,t.com,0⟩] } i { t with ph := 5 })
 | putNew (h : t.ph = 4) (o : Op) (ho : t.prog[t.op]? = some o) (hd : o.d = 2) (he : Zk s.sh.ent o.k = none) : Tr s i t (Zl { s with sh := s.sh.put o,keys := Yn s.keys ((s.sh.given : Int) + 1) o.k,wr := { s.wr with res := s.wr.res - 1,q := s.wr.q ++ [⟨1,(s.sh.given : Int) + 1,o.k,o.w⟩] },recs := s.recs ++ [⟨i,t.op,2,t.com,0⟩] } i { t with ph := 5 })
 | delHit (h : t.ph = 4) (o : Op) (ho : t.prog[t.op]? = some o) (hd : o.d ≠ 1 ∧ o.d ≠ 2) (e : Ent) (he : Zk s.sh.ent o.k = some e) (c : Com) (hc : c = { t.com with v := e.v,h := true }) : Tr s i t (Zl { s with sh := s.sh.remove o.k,wr := { s.wr with res := s.wr.res - 1,q := s.wr.q ++ [⟨4,e.n,o.k,e.w⟩] },recs := s.recs ++ [⟨i,t.op,2,c,0⟩] } i { t with com := c,ph := 5 })
 | delMiss (h : t.ph = 4) (o : Op) (ho : t.prog[t.op]? = some o) (hd : o.d ≠ 1 ∧ o.d ≠ 2) (he : Zk s.sh.ent o.k = none) (c : Com) (hc : c = { t.com with v := 0,h := false }) : Tr s i t (Zl { s with wr := { s.wr with res := s.wr.res - 1 },recs := s.recs ++ [⟨i,t.op,2,c,0⟩] } i { t with com := c,ph := 5 })
 | unlock (h : t.ph = 5) (ph : Int) (hp : Zp8 t.com ph) : Tr s i t (Zl (Yr s (s.sh.shard t.com.k)) i { t with ph := ph })
 | offer (h : t.ph = 6) (r : Y8) (hr : s.rings[Jd s i]? = some r) (hq : r.q.length ≠ r.size) : Tr s i t (Zl { s with rings := s.rings.set (Jd s i) { r with q := r.q ++ [t.node] } } i { t with ph := 16 })
 | lost (h : t.ph = 6) : Tr s i t (Zl s i { t with ph := 8 })
 | mark (h : t.ph = 7) : Tr s i t (Zl { s with status := J5 s.status } i { t with ph := 8 })
 | ans (h : t.ph = 16) : Tr s i t (Zl (Z9 s ⟨i,t.op,3,t.com,t.err⟩) i { t with op := t.op + 1,ph := 0 })
 | reads0 (h : t.ph = 10) (hr : (Y3 s.rings).2 = none) : Tr s i t (Zl s i { t with ph := 11 })
 | reads1 (h : t.ph = 10) (v : Int) (hr : (Y3 s.rings).2 = some v) : Tr s i t (Yj { s with rings := (Y3 s.rings).1 } ⟨2,v,0,0⟩)
 | writes0 (h : t.ph = 11) (hq : s.wr.q = []) : Tr s i t (Zl s i { t with ph := 15 })
 | writes1 (h : t.ph = 11) (e : Ev) (q : List Ev) (hq : s.wr.q = e :: q) (ph : Int) (hp : Jn (s.pol.step e).2 ph) : Tr s i t (Zl (Yj { s with wr := { s.wr with q := q } } e) i { t with vic := (s.pol.step e).2,ph := ph })
 | evict0 (h : t.ph = 13) (hk : Zk s.sh.keys (t.vic.headD 0) = none) : Tr s i t (Zl s i { t with ph := 14 })
 | evict1 (h : t.ph = 13) (k : Int) (hk : Zk s.sh.keys (t.vic.headD 0) = some k) (e : Ent) (he : Zk s.sh.ent k = some e) : Tr s i t (Zl { s with sh := s.sh.remove k,recs := s.recs ++ [⟨i,-1,2,⟨4,e.k,e.v,true⟩,0⟩] } i { t with ph := 14 })
 | release (h : t.ph = 14) (ph : Int) (hp : Jn (t.vic.drop 1) ph) : Tr s i t (Zl (Yr s (s.sh.shard (Jy s t))) i { t with vic := t.vic.drop 1,ph := ph })
 | again (h : t.ph = 15) (hc : 0 < Qj s.rings ∨ 0 < s.wr.q.length ∨ s.status = 3) : Tr s i t (Zl { s with status := 2 } i { t with ph := 10 })
 | finish (h : t.ph = 15) (hc : ¬ (0 < Qj s.rings ∨ 0 < s.wr.q.length ∨ s.status = 3)) : Tr s i t (Zl (Yr { s with status := 0 } s.sh.n) i { t with ph := t.back })
structure Ydh (s : St) (t : Th) : Prop where
 op : t.op ≤ t.prog.length
 ph : 0 ≤ t.ph ∧ t.ph ≤ 16
 at_ : t.ph ≠ 0 → ∃ o,t.prog[t.op]? = some o ∧ t.com.d = o.d ∧ t.com.k = o.k ∧ (t.ph = 4 ∨ t.ph = 5 → o.d = 1 ∨ o.d = 2 ∨ o.d = 3)
 vic : (t.ph = 12 ∨ t.ph = 13 ∨ t.ph = 14) → t.vic ≠ []
theorem Zlo (s : St) (i : Nat) (t : Th) : ∃ ph,Jn t.vic ph ∧ K3 s i t = Yk s i t ph := by
 unfold K3 Jn
 by_cases h : t.vic = []
 ·exact ⟨11,.inl ⟨h,rfl⟩,by rw [if_pos h]⟩
 ·exact ⟨12,.inr ⟨h,rfl⟩,by rw [if_neg h]⟩
theorem not_true {b : Bool} (h : ¬ b = true) : b = false := by cases b <;> simp_all
theorem Yc9 (ok : Ydh s t) (hkeys : ∀ n k,Zk s.sh.keys n = some k → (Zk s.sh.ent k).isSome = true) (hring : ∃ r,s.rings[Jd s i]? = some r) : Tr s i t (Yu s i t) := by
 obtain ⟨p0,p1⟩ := ok.ph
 unfold Yu
 by_cases h0 : t.ph = 0
 ·rw [if_pos h0]
  unfold Zag
  cases ho : t.prog[t.op]? with
  | none => exact .done h0 ho
  | some o =>
   simp only
   have hB : ∀ er ph,Zhu s.cap o ph er → Tr s i t (Yk (Z9 s ⟨i,t.op,1,Yz o,0⟩) i { t with com := Yz o,err := er } ph) := fun er ph hb => .beg h0 o ho ph er hb
   show Tr s i t (if (if o.d = 2 then Kc o.w s.cap else 0) ≠ 0 then _ else if o.d = 1 then _ else if o.d = 2 ∨ o.d = 3 then _ else if o.d = 4 then _ else _)
   generalize hE : (if o.d = 2 then Kc o.w s.cap else 0) = er
   by_cases he : er = 0
   ·subst he
    rw [if_neg (fun h => h rfl)]
    by_cases h1 : o.d = 1
    ·rw [if_pos h1]; exact hB _ _ (.inr (.inl ⟨rfl,h1,rfl⟩))
    rw [if_neg h1]
    by_cases h2 : o.d = 2 ∨ o.d = 3
    ·rw [if_pos h2]
     refine hB _ _ (.inr (.inr (.inl ⟨rfl,?_,rfl⟩)))
     rcases h2 with h2 | h2
     ·refine .inl ⟨h2,?_⟩
      rw [if_pos h2] at hE
      unfold Kc at hE
      split at hE
      ·omega
      ·split at hE <;> omega
     ·exact .inr h2
    rw [if_neg h2]
    by_cases h4 : o.d = 4
    ·rw [if_pos h4]; exact hB _ _ (.inr (.inr (.inr ⟨rfl,h4,rfl⟩)))
    ·rw [if_neg h4]; exact hB _ _ (.inl rfl)
   ·rw [if_pos he]; exact hB _ _ (.inl rfl)
 rw [if_neg h0]
 obtain ⟨o,ho,hd,hk,h45⟩ := ok.at_ h0
 by_cases h1 : t.ph = 1
 ·rw [if_pos h1]
  split
  ·rename_i hf; exact .full h1 hf
  ·rename_i hf; exact .reserve h1 hf
 rw [if_neg h1]
 by_cases h2 : t.ph = 2
 ·rw [if_pos h2]
  unfold Zhh
  split
  ·rename_i hl; exact .back1 h2 hl
  ·rename_i hl; exact .drain 1 (.inl ⟨h2,rfl⟩) (not_true hl)
 rw [if_neg h2]
 by_cases h3 : t.ph = 3
 ·rw [if_pos h3]
  unfold J7
  split
  ·rename_i hl; exact .wait3 h3 hl
  ·rename_i hl; exact .lock3 h3 (not_true hl)
 rw [if_neg h3]
 by_cases h4 : t.ph = 4
 ·rw [if_pos h4]
  unfold Zfx
  rw [ho]
  simp only
  by_cases d1 : o.d = 1
  ·rw [if_pos d1]
   exact .get h4 o ho d1 _ rfl
  rw [if_neg d1]
  by_cases d2 : o.d = 2
  ·rw [if_pos d2]
   cases he : Zk s.sh.ent o.k with
   | none => exact .putNew h4 o ho d2 he
   | some e => exact .putOld h4 o ho d2 e he
  rw [if_neg d2]
  cases he : Zk s.sh.ent o.k with
  | none => exact .delMiss h4 o ho ⟨d1,d2⟩ he _ rfl
  | some e => exact .delHit h4 o ho ⟨d1,d2⟩ e he _ rfl
 rw [if_neg h4]
 by_cases h5 : t.ph = 5
 ·rw [if_pos h5]
  unfold Zc2
  simp only
  split
  ·rename_i a; exact .unlock h5 7 (.inl ⟨rfl,.inl a⟩)
  ·split
   ·rename_i a b; exact .unlock h5 16 (.inr (.inl ⟨rfl,a,b⟩))
   ·rename_i a b
    have hb : t.com.h = true := by cases hh : t.com.h <;> simp_all
    split
    ·rename_i c; exact .unlock h5 6 (.inr (.inr ⟨rfl,c,hb⟩))
    ·rename_i c; exact .unlock h5 7 (.inl ⟨rfl,.inr ⟨c,hb⟩⟩)
 rw [if_neg h5]
 by_cases h6 : t.ph = 6
 ·rw [if_pos h6]
  obtain ⟨r,hr⟩ := hring
  unfold Zn1
  have hg : s.rings.getD (Jd s i) ⟨0,[]⟩ = r := by rw [List.getD_eq_getElem?_getD,hr]; rfl
  simp only [hg]
  unfold Xf
  by_cases hq : r.q.length = r.size
  ·rw [if_pos hq]; simp only [Bool.false_eq_true,if_false]; exact .lost h6
  ·rw [if_neg hq]; simp only [if_true]; exact .offer h6 r hr hq
 rw [if_neg h6]
 by_cases h7 : t.ph = 7
 ·rw [if_pos h7]; exact .mark h7
 rw [if_neg h7]
 by_cases h8 : t.ph = 8
 ·rw [if_pos h8]
  unfold Zhh
  split
  ·rename_i hl; exact .back16 h8 hl
  ·rename_i hl; exact .drain 16 (.inr ⟨.inl h8,rfl⟩) (not_true hl)
 rw [if_neg h8]
 by_cases h9 : t.ph = 9
 ·rw [if_pos h9]
  split
  ·rename_i hl; exact .wait9 h9 hl
  ·rename_i hl; exact .drain 16 (.inr ⟨.inr h9,rfl⟩) (not_true hl)
 rw [if_neg h9]
 by_cases h16 : t.ph = 16
 ·rw [if_pos h16]; exact .ans h16
 rw [if_neg h16]
 by_cases h10 : t.ph = 10
 ·rw [if_pos h10]
  unfold Zdo
  cases hr : Y3 s.rings with
  | mk rs v =>
   cases v with
   | none => exact .reads0 h10 (by rw [hr])
   | some v =>
    have := Tr.reads1 (i:=i) (t:=t) h10 v (by rw [hr] : (Y3 s.rings).2 = some v)
    rw [hr] at this
    exact this
 rw [if_neg h10]
 by_cases h11 : t.ph = 11
 ·rw [if_pos h11]
  unfold Zft
  cases hq : s.wr.q with
  | nil => exact .writes0 h11 hq
  | cons e q =>
   simp only
   obtain ⟨ph,hp,he⟩ := Zlo (Yj { s with wr := { s.wr with q := q } } e) i { t with vic := (s.pol.step e).2 }
   rw [he]
   exact .writes1 h11 e q hq ph hp
 rw [if_neg h11]
 by_cases h12 : t.ph = 12
 ·rw [if_pos h12]
  unfold J7
  split
  ·rename_i hl; exact .wait12 h12 hl
  ·rename_i hl; exact .lock12 h12 (not_true hl)
 rw [if_neg h12]
 by_cases h13 : t.ph = 13
 ·rw [if_pos h13]
  unfold Zew Sh.evict
  cases hk : Zk s.sh.keys (t.vic.headD 0) with
  | none => exact .evict0 h13 hk
  | some k =>
   simp only
   cases he : Zk s.sh.ent k with
   | none => have := hkeys _ _ hk; rw [he] at this; cases this
   | some e => exact .evict1 h13 k hk e he
 rw [if_neg h13]
 by_cases h14 : t.ph = 14
 ·rw [if_pos h14]
  obtain ⟨ph,hp,he⟩ := Zlo (Yr s (s.sh.shard (Jy s t))) i { t with vic := t.vic.drop 1 }
  rw [he]
  exact .release h14 ph hp
 rw [if_neg h14]
 have h15 : t.ph = 15 := by omega
 unfold Zkz
 split
 ·rename_i hc; exact .again h15 hc
 ·rename_i hc; exact .finish h15 hc
def Rw.all (r : Rw) : List Nw := r.r0 ++ (r.r1 ++ r.r2)
theorem Xz (r : Rw) : r.count = r.all.length := by simp only [Rw.count,Rw.all,Yek]; omega
theorem Zmj (a b : List Nw) : Xq (a ++ b) = Xq a + Xq b := by
 induction a with
 | nil => simp [Xq]
 | cons t r ih => simp only [List.cons_append,Xq,ih]; omega
theorem Za5 {a b : List Nw} (h : a.Perm b) : Xq a = Xq b := by
 induction h with
 | nil => rfl
 | cons x _ ih => simp only [Xq,ih]
 | swap x y l => simp only [Xq]; omega
 | trans _ _ ih1 ih2 => exact ih1.trans ih2
theorem Qf (r : Rw) : r.total = Xq r.all := by simp only [Rw.total,Rw.all,Zmj]; omega
theorem Zin (most : Int) (l : List Nw) : (Xu most l).1 ++ (Xu most l).2 = l := by
 induction l with
 | nil => simp [Xu]
 | cons t r ih =>
  rw [Xu]
  split
  ·show t :: (_ ++ _) = _
   rw [ih]
  ·rfl
theorem Ze3 (r : Rw) (hk : k = 0 ∨ k = 2) (most : Int) : (r.pass k most).all.Perm r.all := by
 obtain ⟨r0,r1,r2⟩ := r
 rcases hk with rfl | rfl
 ·have h := Zin most r0
  show ((Xu most r0).2 ++ ((r1 ++ (Xu most r0).1) ++ r2)).Perm (r0 ++ (r1 ++ r2))
  generalize (Xu most r0).1 = a at *
  generalize (Xu most r0).2 = b at *
  subst h
  exact Yeb.2 (fun x => by simp only [Yed]; omega)
 ·have h := Zin most r2
  show (r0 ++ ((r1 ++ (Xu most r2).1) ++ (Xu most r2).2)).Perm (r0 ++ (r1 ++ r2))
  generalize (Xu most r2).1 = a at *
  generalize (Xu most r2).2 = b at *
  subst h
  exact Yeb.2 (fun x => by simp only [Yed]; omega)
theorem Zir (r : Rw) (hk : k < 3) (t : Nw) : (r.push k t).all.Perm (t :: r.all) := by
 obtain ⟨r0,r1,r2⟩ := r
 have : k = 0 ∨ k = 1 ∨ k = 2 := by omega
 rcases this with rfl | rfl | rfl
 ·show ((r0 ++ [t]) ++ (r1 ++ r2)).Perm (t :: (r0 ++ (r1 ++ r2)))
  exact Yeb.2 (fun x => by simp only [Yed,Yeo,Yeq]; omega)
 ·show (r0 ++ ((r1 ++ [t]) ++ r2)).Perm (t :: (r0 ++ (r1 ++ r2)))
  exact Yeb.2 (fun x => by simp only [Yed,Yeo,Yeq]; omega)
 ·show (r0 ++ (r1 ++ (r2 ++ [t]))).Perm (t :: (r0 ++ (r1 ++ r2)))
  exact Yeb.2 (fun x => by simp only [Yed,Yeo,Yeq]; omega)
theorem Zpn (r : Rw) (id : Int) : (r.out id).all = Va id r.all := by simp [Rw.out,Rw.all,Va]
theorem Zn9 (r : Rw) (id v : Int) : (r.re id v).all = wre id v r.all := by simp [Rw.re,Rw.all,wre]
theorem Zo8 (r : Rw) (id : Int) : Zhr r id ↔ id ∈ r.all.map (·.1) := by
 rw [Yef]
 constructor
 ·rintro ⟨k,hk,t,ht,e⟩
  have : k = 0 ∨ k = 1 ∨ k = 2 := by omega
  refine ⟨t,?_,e⟩
  rcases this with rfl | rfl | rfl
  ·exact Yd6 _ ht
  ·exact Yd5 _ (Yd6 _ ht)
  ·exact Yd5 _ (Yd5 _ ht)
 ·rintro ⟨t,ht,e⟩
  rcases Yep.1 ht with a | a
  ·exact ⟨0,by omega,t,a,e⟩
  ·rcases Yep.1 a with b | b
   ·exact ⟨1,by omega,t,b,e⟩
   ·exact ⟨2,by omega,t,b,e⟩
theorem Ya2 {r : Rw} (h : r.of id = some (k,v)) : k < 3 ∧ (id,v) ∈ r.all := by
 obtain ⟨hk,hm⟩ := Ze0 h
 have : k = 0 ∨ k = 1 ∨ k = 2 := by omega
 refine ⟨hk,?_⟩
 rcases this with rfl | rfl | rfl
 ·exact Yd6 _ hm
 ·exact Yd5 _ (Yd6 _ hm)
 ·exact Yd5 _ (Yd5 _ hm)
theorem Zw0 (h : id ∉ l.map (·.1)) : Va id l = l := by
 unfold Va
 rw [List.filter_eq_self]
 intro a ha
 have : a.1 ≠ id := fun e => h (Yef.2 ⟨a,ha,e⟩)
 simpa using this
theorem Zi9 (hn : (l.map (·.1)).Nodup) (h : (id,v) ∈ l) : ((id,v) :: Va id l).Perm l := by
 induction l with
 | nil => cases h
 | cons t r ih =>
  rw [Yd7] at hn
  obtain ⟨h1,h2⟩ := Yeg.1 hn
  rcases Yei.1 h with e | e
  ·subst e
   have : Va id ((id,v) :: r) = r := by
    have hw := Zw0 h1
    unfold Va at hw ⊢
    rw [List.filter_cons,if_neg (by simp)]
    exact hw
   rw [this]
  ·have hne : t.1 ≠ id := fun e' => h1 (Yef.2 ⟨_,e,e'.symm⟩)
   have : Va id (t :: r) = t :: Va id r := by
    unfold Va
    rw [List.filter_cons,if_pos (by simpa using hne)]
   rw [this]
   exact (List.Perm.swap _ _ _).trans ((ih h2 e).cons t)
theorem Zwy (id i : Int) : i ∈ (Va id l).map (·.1) ↔ i ≠ id ∧ i ∈ l.map (·.1) := by
 simp only [Va,Yef,List.mem_filter,decide_eq_true_eq]
 constructor
 ·rintro ⟨t,⟨h1,h2⟩,rfl⟩; exact ⟨h2,t,h1,rfl⟩
 ·rintro ⟨h1,t,h2,rfl⟩; exact ⟨t,⟨h2,h1⟩,rfl⟩
theorem Zzj (id v : Int) (l : List Nw) : (wre id v l).map (·.1) = l.map (·.1) := by
 unfold wre
 rw [List.map_map]
 apply List.map_congr_left
 intro t _
 show (if t.1 = id then (t.1,v) else t).1 = t.1
 split <;> rfl
theorem Zzl (h : id ∉ l.map (·.1)) : wre id v l = l := by
 induction l with
 | nil => rfl
 | cons t r ih =>
  rw [Yd7,Yei,not_or] at h
  have := ih h.2
  unfold wre at this ⊢
  rw [Yd7,if_neg (fun e => h.1 e.symm),this]
theorem Zzm (hv : 0 ≤ v) (hn : (l.map (·.1)).Nodup) (hp : ∀ t ∈ l,0 ≤ t.2) : Xq (wre id v l) ≤ Xq l + v := by
 induction l with
 | nil => simp [wre,Xq]; exact hv
 | cons t r ih =>
  rw [Yd7] at hn
  obtain ⟨h1,h2⟩ := Yeg.1 hn
  have hr := ih h2 (fun u hu => hp u (List.mem_cons_of_mem _ hu))
  have ht := hp t Yd8
  by_cases e : t.1 = id
  ·have hnot : wre id v r = r := Zzl (by rw [← e]; exact h1)
   unfold wre at hnot ⊢
   rw [Yd7,hnot,if_pos e]
   simp only [Xq]
   omega
  ·unfold wre at hr ⊢
   rw [Yd7,if_neg e]
   simp only [Xq]
   omega
structure Zw9 (r : Rw) : Prop where
 nod : (r.all.map (·.1)).Nodup
 pos : ∀ t ∈ r.all,1 ≤ t.1 ∧ 0 ≤ t.2
theorem Zw9.perm {r r' : Rw} (h : Zw9 r) (p : r'.all.Perm r.all) : Zw9 r' := ⟨(p.map _).nodup_iff.2 h.nod,fun t ht => h.pos t (p.mem_iff.1 ht)⟩
structure Y9 (p : Pol) : Prop where
 num : Qe p
 ko : Yo p.keys
 len : p.keys.length = p.rw.count
 ids : ∀ id,(Zk p.keys id).isSome = true ↔ id ∈ p.rw.all.map (·.1)
 rw : Zw9 p.rw
theorem Y9.ok {p : Pol} (h : Y9 p) : Zc7 p := ⟨h.num,h.ko,fun id => Zqt (by rw [h.ids,Zj0,Zo8])⟩
theorem Y9.perm {p p' : Pol} (h : Y9 p) (hn : Qe p') (hk : p'.keys = p.keys) (hp : p'.rw.all.Perm p.rw.all) : Y9 p' :=
 ⟨hn,by rw [hk]; exact h.ko,by rw [hk,h.len,Xz,Xz,hp.length_eq],fun id => by rw [hk,h.ids]; exact ((hp.map _).mem_iff).symm,h.rw.perm hp⟩
theorem Y9.drop {p : Pol} (h : Y9 p) (hi : id ∈ p.rw.all.map (·.1)) : Y9 (p.drop id) ∧ (p.drop id).rw.count + 1 = p.rw.count ∧ (p.drop id).rw.total ≤ p.rw.total ∧ (∀ i,i ∈ (p.drop id).rw.all.map (·.1) ↔ i ≠ id ∧ i ∈ p.rw.all.map (·.1)) := by
 obtain ⟨t,ht,e⟩ := Yef.1 hi
 obtain ⟨a,v⟩ := t
 simp only at e
 subst e
 have hp := Zi9 h.rw.nod ht
 have hA : (p.drop a).rw.all = Va a p.rw.all := Zpn _ _
 have hl : (Va a p.rw.all).length + 1 = p.rw.all.length := by have := hp.length_eq; simpa using this
 have hc : (p.drop a).rw.count + 1 = p.rw.count := by rw [Xz,Xz,hA]; exact hl
 have hm : ∀ i,i ∈ (p.drop a).rw.all.map (·.1) ↔ i ≠ a ∧ i ∈ p.rw.all.map (·.1) := fun i => by rw [hA]; exact Zwy a i
 refine ⟨⟨h.num.same rfl rfl rfl rfl rfl,h.ko.del a,?_,fun i => ?_,⟨?_,fun t ht => ?_⟩⟩,hc,?_,hm⟩
 ·show (Xe p.keys a).length = _
  rw [Qk h.ko,if_pos ((h.ids a).2 hi),h.len]
  omega
 ·show (Zk (Xe p.keys a) i).isSome = true ↔ _
  rw [hm,Xp,← h.ids]
  by_cases e : i = a
  ·simp [e]
  ·simp [e]
 ·have := (hp.map (·.1)).nodup_iff.2 h.rw.nod
  rw [Yd7] at this
  rw [hA]
  exact (Yeg.1 this).2
 ·rw [hA] at ht
  exact h.rw.pos t (List.mem_filter.1 ht).1
 ·rw [Qf,Qf,hA,← Za5 hp]
  have := (h.rw.pos _ ht).2
  simp only at this
  simp only [Xq]
  omega
theorem Zdg (h : Yi l ≠ 0) : Yi l ∈ l.map (·.1) := by
 cases l with
 | nil => exact absurd rfl h
 | cons t r => exact Yd8
theorem Zca (hp : ∀ t ∈ l,1 ≤ t.1) (h : Yi l = 0) : l = [] := by
 cases l with
 | nil => rfl
 | cons t r =>
  have := hp t Yd8
  simp only [Yi] at h
  omega
theorem Zqf (h : l ≠ []) : Jm l ∈ l.map (·.1) := by
 unfold Jm
 cases hl : l.getLast? with
 | none => exact absurd (List.getLast?_eq_none_iff.1 hl) h
 | some t => exact Yef.2 ⟨t,List.mem_of_getLast? hl,rfl⟩
theorem Zvb {p : Pol} (h : Y9 p) (ht : p.cap < p.rw.total) : p.next ∈ p.rw.all.map (·.1) := by
 have hc := h.num.c0
 have h0 : ∀ t ∈ p.rw.r0,1 ≤ t.1 := fun t ht => (h.rw.pos t (Yd6 _ ht)).1
 have h1 : ∀ t ∈ p.rw.r1,1 ≤ t.1 := fun t ht => (h.rw.pos t (Yd5 _ (Yd6 _ ht))).1
 have h2 : ∀ t ∈ p.rw.r2,1 ≤ t.1 := fun t ht => (h.rw.pos t (Yd5 _ (Yd5 _ ht))).1
 have m0 : ∀ i,i ∈ p.rw.r0.map (·.1) → i ∈ p.rw.all.map (·.1) := fun i hi => by unfold Rw.all; rw [Yea]; exact Yd6 _ hi
 have m1 : ∀ i,i ∈ p.rw.r1.map (·.1) → i ∈ p.rw.all.map (·.1) := fun i hi => by unfold Rw.all; rw [Yea,Yea]; exact Yd5 _ (Yd6 _ hi)
 have m2 : ∀ i,i ∈ p.rw.r2.map (·.1) → i ∈ p.rw.all.map (·.1) := fun i hi => by unfold Rw.all; rw [Yea,Yea]; exact Yd5 _ (Yd5 _ hi)
 unfold Pol.next
 by_cases e1 : Yi p.rw.r1 = 0
 ·rw [if_pos e1]
  have hr1 := Zca h1 e1
  by_cases e2 : 0 < p.rw.r2.length
  ·rw [if_pos e2]
   refine m2 _ (Zdg (fun e => ?_))
   rw [Zca h2 e] at e2
   simp at e2
  ·rw [if_neg e2]
   refine m0 _ (Zdg (fun e => ?_))
   have hr0 := Zca h0 e
   have hr2 : p.rw.r2 = [] := Yen.1 (by omega)
   rw [Qf,Rw.all,hr0,hr1,hr2] at ht
   simp [Xq] at ht
   omega
 ·rw [if_neg e1]
  have hf := m1 _ (Zdg e1)
  have hb := m1 _ (Zqf (l:=p.rw.r1) (fun e => e1 (by rw [e]; rfl)))
  split
  ·exact hf
  ·split
   ·exact hf
   ·exact hb
structure Zsw (p : Pol) (q : Pol × List Int) : Prop where
 inv : Y9 q.1
 cap : q.1.cap = p.cap
 cnt : q.1.rw.count + q.2.length = p.rw.count
 nod : q.2.Nodup
 gone : ∀ id ∈ q.2,id ∈ p.rw.all.map (·.1) ∧ id ∉ q.1.rw.all.map (·.1)
 sub : ∀ id,id ∈ q.1.rw.all.map (·.1) → id ∈ p.rw.all.map (·.1)
 tot : q.1.rw.total ≤ p.rw.total
 fit : p.rw.total ≤ p.cap → q.2 = []
theorem Zoc (n : Nat) : ∀ {p : Pol},Y9 p → Zsw p (p.settleN n) := by
 induction n with
 | zero => intro p h; exact ⟨h,rfl,by simp [Pol.settleN],Yd9,fun _ h => (nomatch h),fun _ h => h,Yeh _,fun _ => rfl⟩
 | succ n ih =>
  intro p h
  by_cases ht : p.cap < p.rw.total
  ·have hm := Zvb h ht
   obtain ⟨d1,d2,d3,d4⟩ := h.drop hm
   have r := ih d1
   rw [Zhb ht]
   refine ⟨r.inv,r.cap,?_,?_,?_,fun id hid => ((d4 id).1 (r.sub id hid)).2,Int.le_trans r.tot d3,fun hh => by omega⟩
   ·have := r.cnt
    simp only [List.length_cons]
    omega
   ·refine Yeg.2 ⟨fun hx => ?_,r.nod⟩
    exact ((d4 _).1 (r.gone _ hx).1).1 rfl
   ·intro id hid
    rcases Yei.1 hid with e | e
    ·subst e
     exact ⟨hm,fun hx => ((d4 _).1 (r.sub _ hx)).1 rfl⟩
    ·exact ⟨((d4 _).1 (r.gone _ e).1).2,(r.gone _ e).2⟩
  ·rw [Zen ht]
   exact ⟨h,rfl,by simp,Yd9,fun _ h => (nomatch h),fun _ h => h,Yeh _,fun _ => rfl⟩
theorem Ziz {p : Pol} (h : Y9 p) : Zsw p p.settle := by
 have hp := Ze3 p.rw (.inl rfl) p.win
 have h1 : Y9 { p with rw := p.rw.pass 0 p.win } := h.perm (h.num.same rfl rfl rfl rfl rfl) rfl hp
 have r := Zoc ({ p with rw := p.rw.pass 0 p.win } : Pol).rw.count h1
 have hc : ({ p with rw := p.rw.pass 0 p.win } : Pol).rw.count = p.rw.count := by rw [Xz,Xz]; exact hp.length_eq
 have htt : ({ p with rw := p.rw.pass 0 p.win } : Pol).rw.total = p.rw.total := by rw [Qf,Qf]; exact Za5 hp
 have hm : ∀ id,id ∈ ({ p with rw := p.rw.pass 0 p.win } : Pol).rw.all.map (·.1) ↔ id ∈ p.rw.all.map (·.1) := fun id => (hp.map _).mem_iff
 exact ⟨r.inv,r.cap,by rw [← hc]; exact r.cnt,r.nod,fun id hid => ⟨(hm id).1 (r.gone id hid).1,(r.gone id hid).2⟩,fun id hid => (hm id).1 (r.sub id hid),by rw [← htt]; exact r.tot,fun hh => r.fit (by rw [htt]; exact hh)⟩
theorem Zba (p : Pol) (hit : Bool) : (p.count hit).rw.all.Perm p.rw.all := by
 rw [Zgm]
 split
 ·exact Ze3 p.rw (.inr rfl) _
 ·exact List.Perm.refl _
theorem Y9.count {p : Pol} (h : Y9 p) (hit : Bool) : Y9 (p.count hit) := by
 obtain ⟨a1,_,a3,_⟩ := h.num.count hit
 exact h.perm a1 a3 (Zba p hit)
theorem Y9.read {p : Pol} (h : Y9 p) (hi : (Zk p.keys id).isSome = true) : Y9 (p.read id) ∧ (p.read id).rw.all.Perm p.rw.all ∧ (p.read id).cap = p.cap ∧ (p.read id).keys = p.keys := by
 obtain ⟨k,v,hof⟩ := Zf5 (r:=p.rw) (id:=id) (by rw [Zj0,Zo8]; exact (h.ids id).1 hi)
 obtain ⟨hk,hm⟩ := Ya2 hof
 have hout := Zi9 h.rw.nod hm
 rw [Zf7]
 generalize Kf p.fi (Kr p id) = f
 have hps : ∀ j,j < 3 → ((p.rw.out id).push j (id,v)).all.Perm p.rw.all := fun j hj => (Zir _ hj _).trans (by rw [Zpn]; exact hout)
 by_cases hk1 : k = 1
 ·subst hk1
  rw [Zdn hof]
  have hp : (((p.rw.out id).push 2 (id,v)).pass 2 p.prot).all.Perm p.rw.all := (Ze3 _ (.inr rfl) _).trans (hps 2 (by omega))
  have h1 : Y9 { p with fi := f,rw := ((p.rw.out id).push 2 (id,v)).pass 2 p.prot } := h.perm (h.num.same rfl rfl rfl rfl rfl) rfl hp
  obtain ⟨_,_,a3,a4,_⟩ := h1.num.count true
  exact ⟨h1.count true,(Zba _ true).trans hp,a4,a3⟩
 ·rw [Zdm hof hk1]
  have hp := hps k hk
  have h1 : Y9 { p with fi := f,rw := (p.rw.out id).push k (id,v) } := h.perm (h.num.same rfl rfl rfl rfl rfl) rfl hp
  obtain ⟨_,_,a3,a4,_⟩ := h1.num.count true
  exact ⟨h1.count true,(Zba _ true).trans hp,a4,a3⟩
def evW (e : Ev) : Int := if e.d = 1 ∨ e.d = 3 then e.w else 0
structure Zs7 (p : Pol) (e : Ev) (q : Pol × List Int) : Prop where
 inv : Y9 q.1
 cap : q.1.cap = p.cap
 cnt : q.1.rw.count + q.2.length ≤ p.rw.count + (if e.d = 1 then 1 else 0)
 nod : q.2.Nodup
 gone : ∀ id ∈ q.2,((Zk p.keys id).isSome = true ∨ (e.d = 1 ∧ id = e.n)) ∧ (Zk q.1.keys id).isSome = false
 sub : ∀ id,(Zk q.1.keys id).isSome = true → (Zk p.keys id).isSome = true ∨ (e.d = 1 ∧ id = e.n)
 tot : q.1.rw.total ≤ p.rw.total + evW e
 fit : p.rw.total + evW e ≤ p.cap → q.2 = []
theorem Zgy {α : Type} {o : Option α} (h : ¬ o.isSome = true) : o.isSome = false := by cases o <;> simp_all
theorem Zp0 {p : Pol} (h : Y9 p) {e : Ev} (he : Zga p e) : Zs7 p e (p.step e) := by
 unfold Zga at he
 have keep : e.d ≠ 1 → evW e ≥ 0 → Zs7 p e (p,[]) := fun h1 h2 => ⟨h,rfl,by simp,Yd9,fun _ h => (nomatch h),fun _ h => .inl h,by simp only; omega,fun _ => rfl⟩
 rcases he with ⟨hd,hn,hw,hk⟩ | ⟨hd,hn⟩ | ⟨hd,hn,hw⟩ | ⟨hd,hn⟩
 ·have hE : evW e = e.w := by unfold evW; rw [if_pos (.inl hd)]
  rw [Zl4 hd]
  simp only
  generalize hp1 : ({ p with fi := Kf p.fi e.k } : Pol).count false = p1
  have h0 : Y9 { p with fi := Kf p.fi e.k } := ⟨h.num.same rfl rfl rfl rfl rfl,h.ko,h.len,h.ids,h.rw⟩
  obtain ⟨a1,a2,a3,a4,_⟩ := h0.num.count false
  have h1 := h0.count false
  have hpm := Zba ({ p with fi := Kf p.fi e.k } : Pol) false
  rw [hp1] at a1 a2 a3 a4 h1 hpm
  simp only at a2 a3 a4 hpm
  have hnot : e.n ∉ p.rw.all.map (·.1) := fun hx => by have := (h.ids e.n).2 hx; rw [hk] at this; cases this
  have hpp : (p1.rw.push 0 (e.n,e.w)).all.Perm ((e.n,e.w) :: p.rw.all) := (Zir p1.rw (by omega) (e.n,e.w)).trans (hpm.cons _)
  have hpi : ∀ id,id ∈ (p1.rw.push 0 (e.n,e.w)).all.map (·.1) ↔ id = e.n ∨ id ∈ p.rw.all.map (·.1) := fun id => by
   rw [(hpp.map _).mem_iff,Yd7,Yei]
  have hcn : (p1.rw.push 0 (e.n,e.w)).count = p.rw.count + 1 := by rw [Xz,Xz,hpp.length_eq]; rfl
  have h2 : Y9 { p1 with rw := p1.rw.push 0 (e.n,e.w),keys := Yn p1.keys e.n e.k } := by
   refine ⟨a1.same rfl rfl rfl rfl rfl,h1.ko.put _ _,?_,fun id => ?_,⟨(hpp.map _).nodup_iff.2 ?_,fun t ht => ?_⟩⟩
   ·show (Yn p1.keys e.n e.k).length = (p1.rw.push 0 (e.n,e.w)).count
    rw [hcn,a3,Xk h.ko,hk,h.len]
    rfl
   ·show (Zk (Yn p1.keys e.n e.k) id).isSome = true ↔ id ∈ (p1.rw.push 0 (e.n,e.w)).all.map (·.1)
    rw [hpi,Yv,a3,← h.ids]
    by_cases ei : id = e.n
    ·simp [ei]
    ·simp [ei]
   ·rw [Yd7]
    exact Yeg.2 ⟨hnot,h.rw.nod⟩
   ·rcases Yei.1 (hpp.mem_iff.1 ht) with e' | e'
    ·rw [e']; exact ⟨hn.1,hw.1⟩
    ·exact h.rw.pos t e'
  have r := Ziz h2
  have htot : ({ p1 with rw := p1.rw.push 0 (e.n,e.w),keys := Yn p1.keys e.n e.k } : Pol).rw.total = p.rw.total + e.w := by
   rw [Qf,Qf]
   show Xq (p1.rw.push 0 (e.n,e.w)).all = _
   rw [Za5 hpp]
   simp only [Xq]
   omega
  refine ⟨r.inv,r.cap.trans a4,?_,r.nod,fun id hid => ⟨?_,?_⟩,fun id hid => ?_,?_,fun hh => ?_⟩
  ·rw [if_pos hd]
   have := r.cnt
   simp only at this
   omega
  ·rcases (hpi id).1 (r.gone id hid).1 with e' | e'
   ·exact .inr ⟨hd,e'⟩
   ·exact .inl ((h.ids id).2 e')
  ·exact Zgy (fun hx => (r.gone id hid).2 ((r.inv.ids id).1 hx))
  ·rcases (hpi id).1 (r.sub id ((r.inv.ids id).1 hid)) with e' | e'
   ·exact .inr ⟨hd,e'⟩
   ·exact .inl ((h.ids id).2 e')
  ·rw [hE,← htot]; exact r.tot
  ·rw [hE] at hh
   refine r.fit ?_
   rw [htot]
   show _ ≤ p1.cap
   rw [a4]
   exact hh
 ·have hE : evW e = 0 := by unfold evW; rw [if_neg (by omega)]
  cases ht : (Zk p.keys e.n).isSome with
  | false => rw [Vn (by omega) ht]; exact keep (by omega) (by omega)
  | true =>
   rw [Zi3 hd ht]
   obtain ⟨b1,b2,b3,b4⟩ := h.read ht
   refine ⟨b1,b3,?_,Yd9,fun _ h => (nomatch h),fun id hid => .inl ?_,?_,fun _ => rfl⟩
   ·rw [if_neg (by omega)]
    simp only [Yej]
    rw [Xz,Xz,b2.length_eq]
    omega
   ·simp only [b4] at hid; exact hid
   ·simp only
    rw [Qf,Qf,Za5 b2]
    omega
 ·have hE : evW e = e.w := by unfold evW; rw [if_pos (.inr hd)]
  cases ht : (Zk p.keys e.n).isSome with
  | false => rw [Vn (by omega) ht]; exact keep (by omega) (by omega)
  | true =>
   rw [Zl6 hd ht]
   have hids : (p.rw.re e.n e.w).all.map (·.1) = p.rw.all.map (·.1) := by rw [Zn9,Zzj]
   have h1 : Y9 { p with rw := p.rw.re e.n e.w } := by
    refine ⟨h.num.same rfl rfl rfl rfl rfl,h.ko,?_,fun id => ?_,⟨?_,fun t htt => ?_⟩⟩
    ·show p.keys.length = (p.rw.re e.n e.w).count
     rw [Zej]; exact h.len
    ·show (Zk p.keys id).isSome = true ↔ id ∈ (p.rw.re e.n e.w).all.map (·.1)
     rw [hids]; exact h.ids id
    ·rw [hids]; exact h.rw.nod
    ·have htt2 : t ∈ (p.rw.re e.n e.w).all := htt
     rw [Zn9] at htt2
     obtain ⟨u,hu,rfl⟩ := Yef.1 htt2
     have := h.rw.pos u hu
     split
     ·exact ⟨this.1,hw.1⟩
     ·exact this
   obtain ⟨b1,b2,b3,b4⟩ := h1.read (id:=e.n) ht
   have r := Ziz b1
   have hm : ∀ id,id ∈ ((({ p with rw := p.rw.re e.n e.w } : Pol).read e.n)).rw.all.map (·.1) ↔ id ∈ p.rw.all.map (·.1) := fun id => by
    rw [(b2.map _).mem_iff]
    show id ∈ (p.rw.re e.n e.w).all.map (·.1) ↔ _
    rw [hids]
   have hct : (({ p with rw := p.rw.re e.n e.w } : Pol).read e.n).rw.count = p.rw.count := by
    rw [Xz,b2.length_eq,← Xz]
    exact Zej _ _ _
   have htot : (({ p with rw := p.rw.re e.n e.w } : Pol).read e.n).rw.total ≤ p.rw.total + e.w := by
    rw [Qf,Za5 b2,Qf]
    show Xq (p.rw.re e.n e.w).all ≤ _
    rw [Zn9]
    exact Zzm hw.1 h.rw.nod (fun t ht => (h.rw.pos t ht).2)
   refine ⟨r.inv,r.cap.trans b3,?_,r.nod,fun id hid => ⟨.inl ((h.ids id).2 ((hm id).1 (r.gone id hid).1)),Zgy (fun hx => (r.gone id hid).2 ((r.inv.ids id).1 hx))⟩,fun id hid => .inl ((h.ids id).2 ((hm id).1 (r.sub id ((r.inv.ids id).1 hid)))),?_,fun hh => r.fit ?_⟩
   ·have := r.cnt
    rw [if_neg (by omega)]
    omega
   ·have := r.tot
    omega
   ·rw [b3]
    show _ ≤ p.cap
    omega
 ·have hE : evW e = 0 := by unfold evW; rw [if_neg (by omega)]
  cases ht : (Zk p.keys e.n).isSome with
  | false => rw [Vn (by omega) ht]; exact keep (by omega) (by omega)
  | true =>
   rw [Zl5 hd ht]
   obtain ⟨d1,d2,d3,d4⟩ := h.drop ((h.ids e.n).1 ht)
   refine ⟨d1,rfl,?_,Yd9,fun _ h => (nomatch h),fun id hid => .inl ((h.ids id).2 ((d4 id).1 ((d1.ids id).1 hid)).2),?_,fun _ => rfl⟩
   ·simp only [Yej]
    omega
   ·simp only
    omega
def Y6 (l : List Ev) : List Int := (l.filter (fun e => decide (e.d = 1))).map (·.n)
def Ja : List Ev → Int
 | [] => 0
 | e :: l => evW e + Ja l
theorem Kq (l : List Ev) (e : Ev) : Ja (l ++ [e]) = Ja l + evW e := by
 induction l with
 | nil => simp [Ja]
 | cons a r ih => simp only [List.cons_append,Ja,ih]; omega
theorem Qn (l : List Ev) (e : Ev) : Y6 (l ++ [e]) = Y6 l ++ (if e.d = 1 then [e.n] else []) := by
 unfold Y6
 rw [Yes,Yea]
 by_cases h : e.d = 1
 ·simp [h]
 ·simp [h]
structure Qz (cap : Int) (l : List Ev) : Prop where
 one : ∀ e ∈ l,(e.d = 1 ∧ (1 ≤ e.n ∧ e.n ≤ 65536) ∧ (0 ≤ e.w ∧ e.w ≤ cap)) ∨ (e.d = 2 ∧ 0 ≤ e.n ∧ e.n ≤ 65536) ∨ (e.d = 3 ∧ (0 ≤ e.n ∧ e.n ≤ 65536) ∧ 0 ≤ e.w ∧ e.w ≤ cap) ∨ (e.d = 4 ∧ 0 ≤ e.n ∧ e.n ≤ 65536)
 nod : (Y6 l).Nodup
theorem Qz.init {cap : Int} {l : List Ev} {e : Ev} (h : Qz cap (l ++ [e])) : Qz cap l :=
 ⟨fun a ha => h.one a (Yd6 _ ha),by have := h.nod; rw [Qn] at this; exact (Yee.1 this).1⟩
structure Zb3 (c : Int) (l : List Ev) (q : Pol × List Int) : Prop where
 inv : Y9 q.1
 cap : q.1.cap = c
 cnt : q.1.rw.count + q.2.length ≤ (Y6 l).length
 nod : q.2.Nodup
 gone : ∀ id ∈ q.2,id ∈ Y6 l ∧ (Zk q.1.keys id).isSome = false
 sub : ∀ id,(Zk q.1.keys id).isSome = true → id ∈ Y6 l
 tot : q.1.rw.total ≤ Ja l
 fit : Ja l ≤ c → q.2 = []
theorem Zo5 {cap : Int} {l : List Ev} (h : Qz cap l) {e : Ev} (he : e ∈ l) : 0 ≤ evW e := by
 unfold evW
 rcases h.one e he with ⟨_,_,h1,_⟩ | ⟨hd,_⟩ | ⟨_,_,h1,_⟩ | ⟨hd,_⟩ <;> split <;> omega
theorem Zn6 {cap : Int} (h0 : 0 ≤ cap) (h1 : cap ≤ 512) : Qe (Xn cap seed) := by
 have hw : loV cap ≤ Zbr cap ∧ Zbr cap ≤ hiV cap := by
  obtain ⟨e1,e2,e3⟩ := Zd3 cap h0
  unfold Zbr Vp
  split <;> split <;> omega
 have hf : 1 ≤ Xl cap ∧ Xl cap ≤ 1000 := by unfold Xl; split <;> omega
 refine ⟨h0,h1,?_,?_,Yeh _,Yeh _,?_,Yeh _,(show (0 : Int) ≤ 65536 by decide),?_,?_,hw.1,hw.2,rfl⟩
 ·show 1 ≤ 10 * (if cap < 1 then 1 else cap); split <;> omega
 ·show 10 * (if cap < 1 then 1 else cap) ≤ 10000; split <;> omega
 ·show (0 : Int) + 0 < 10 * (if cap < 1 then 1 else cap); split <;> omega
 ·show -1000 ≤ Xl cap; omega
 ·show Xl cap ≤ 1000; omega
theorem Zn5 {cap : Int} (h0 : 0 ≤ cap) (h1 : cap ≤ 512) : Y9 (Xn cap seed) := by
 refine ⟨?_,Yd9,rfl,fun id => ?_,⟨Yd9,fun _ h => by cases h⟩⟩
 ·exact Zn6 h0 h1
 ·show (Zk [] id).isSome = true ↔ id ∈ ([] : List Nw).map (·.1)
  simp [Zk]
theorem Zf2 {cap : Int} {l : List Ev} {e : Ev} (h : Qz cap (l ++ [e])) (hq : Zb3 cap l q) : Zga q.1 e := by
 have h1 := h.one e (Yd5 _ Yd8)
 unfold Zga
 rw [hq.cap]
 rcases h1 with ⟨a1,a2,a3⟩ | a | a | a
 ·refine .inl ⟨a1,a2,a3,?_⟩
  have hn := h.nod
  rw [Qn,if_pos a1] at hn
  have : e.n ∉ Y6 l := fun hx => (Yee.1 hn).2.2 _ hx _ Yd8 rfl
  cases hk : Zk q.1.keys e.n with
  | none => rfl
  | some v => exact absurd (hq.sub e.n (by rw [hk]; rfl)) this
 ·exact .inr (.inl a)
 ·exact .inr (.inr (.inl a))
 ·exact .inr (.inr (.inr a))
theorem Zci {cap : Int} {l : List Ev} {e : Ev} (h : Qz cap (l ++ [e])) (hq : Zb3 cap l q) : Zb3 cap (l ++ [e]) ((q.1.step e).1,q.2 ++ (q.1.step e).2) := by
 have hl := Zf2 h hq
 have r := Zp0 hq.inv hl
 have hw := Zo5 h (e:=e) (Yd5 _ Yd8)
 have hd1 : e.d = 1 → e.n ∉ Y6 l := fun hd hx => by
  have hn := h.nod
  rw [Qn,if_pos hd] at hn
  exact (Yee.1 hn).2.2 _ hx _ Yd8 rfl
 have hin : ∀ id,((Zk q.1.keys id).isSome = true ∨ (e.d = 1 ∧ id = e.n)) → id ∈ Y6 (l ++ [e]) := fun id hid => by
  rw [Qn]
  rcases hid with a | ⟨a,b⟩
  ·exact Yd6 _ (hq.sub id a)
  ·rw [if_pos a,b]; exact Yd5 _ Yd8
 refine ⟨r.inv,r.cap.trans hq.cap,?_,?_,fun id hid => ?_,fun id hid => hin id (r.sub id hid),?_,fun hh => ?_⟩
 ·have h1 := r.cnt
  have h2 := hq.cnt
  rw [Qn]
  simp only [Yek]
  by_cases hd : e.d = 1
  ·rw [if_pos hd] at h1 ⊢
   simp only [List.length_cons,Yej]
   omega
  ·rw [if_neg hd] at h1 ⊢
   simp only [Yej]
   omega
 ·refine Yee.2 ⟨hq.nod,r.nod,fun a ha b hb e' => ?_⟩
  subst e'
  obtain ⟨g1,g2⟩ := hq.gone a ha
  rcases (r.gone a hb).1 with x | ⟨x1,x2⟩
  ·rw [g2] at x; cases x
  ·rw [x2] at g1; exact hd1 x1 g1
 ·rcases Yep.1 hid with a | a
  ·obtain ⟨g1,g2⟩ := hq.gone id a
   refine ⟨by rw [Qn]; exact Yd6 _ g1,Zgy (fun hx => ?_)⟩
   rcases r.sub id hx with b | ⟨b1,b2⟩
   ·rw [g2] at b; cases b
   ·rw [b2] at g1; exact hd1 b1 g1
  ·exact ⟨hin id (r.gone id a).1,(r.gone id a).2⟩
 ·have h1 := r.tot
  have h2 := hq.tot
  rw [Kq]
  simp only
  omega
 ·rw [Kq] at hh
  have h1 := hq.fit (by omega)
  have h2 := r.fit (by rw [hq.cap]; have := hq.tot; omega)
  rw [h1,h2]
  rfl
theorem played {cap : Int} (h0 : 0 ≤ cap) (h1 : cap ≤ 512) : ∀ n (l : List Ev),l.length = n → Qz cap l → Zb3 cap l ((Xn cap seed).play l) := by
 intro n
 induction n with
 | zero =>
  intro l hl _
  obtain rfl := Yen.1 hl
  have hi := Zn5 (seed:=seed) h0 h1
  exact ⟨hi,rfl,(show 0 + 0 ≤ 0 by decide),Yd9,fun _ h => (nomatch h),fun id hid => by simp [Pol.play,Xn,Zk] at hid,Yeh _,fun _ => rfl⟩
 | succ n ih =>
  intro l hl he
  rcases List.eq_nil_or_concat l with rfl | ⟨l',e,rfl⟩
  ·cases hl
  ·rw [List.concat_eq_append] at *
   rw [Vk]
   exact Zci he (ih l' (by simpa using hl) he.init)
theorem Zyn {cap : Int} (h0 : 0 ≤ cap) (h1 : cap ≤ 512) {l : List Ev} (h : Qz cap l) (hl : (Y6 l).length ≤ 300) : Zjf (Xn cap seed) l := by
 intro k e he
 have hpre : Qz cap (l.take k ++ [e]) := by
  have ht : l = (l.take k ++ [e]) ++ l.drop (k + 1) := by
   have : l.take (k + 1) = l.take k ++ [e] := by rw [Yet,he]; rfl
   rw [← this,List.take_append_drop]
  refine ⟨fun a ha => h.one a (by rw [ht]; exact Yd6 _ ha),?_⟩
  have hn := h.nod
  rw [ht] at hn
  unfold Y6 at hn ⊢
  rw [Yes,Yea] at hn
  exact (Yee.1 hn).1
 have hle : (Y6 (l.take k ++ [e])).length ≤ (Y6 l).length := by
  have : l.take k ++ [e] = l.take (k + 1) := by rw [Yet,he]; rfl
  rw [this]
  unfold Y6
  rw [List.length_map,List.length_map]
  exact ((List.take_sublist _ _).filter _).length_le
 have r := played (seed:=seed) h0 h1 _ (l.take k) rfl hpre.init
 have r2 := Zci hpre r
 have hc := r.cnt
 have hle2 : (Y6 (l.take k)).length ≤ (Y6 (l.take k ++ [e])).length := by rw [Qn,Yek]; omega
 refine ⟨r.inv.ok,Zf2 hpre r,by omega,?_,?_⟩
 ·rw [r.inv.len]; omega
 ·have := r2.cnt
  simp only at this
  omega
def Xv (f : Th → Nat) (l : List Th) : Nat := (l.map f).sum
theorem Qi (f : Th → Nat) : ∀ {l : List Th} {i : Nat} {t : Th} (t' : Th),l[i]? = some t → Xv f (l.set i t') + f t = Xv f l + f t'
 | [],_,_,_,h => by cases h
 | a :: l,0,t,t',h => by
  cases h
  simp only [Xv,Yd4,Yd7,Yel]
  omega
 | a :: l,i + 1,t,t',h => by
  have := Qi f t' (l:=l) (i:=i) (t:=t) h
  simp only [Xv,Yd3,Yd7,Yel] at this ⊢
  omega
theorem Zbp (f : Th → Nat) : ∀ {l : List Th} {i : Nat} {t : Th},l[i]? = some t → f t ≤ Xv f l
 | [],_,_,h => by cases h
 | a :: l,0,t,h => by
  cases h
  simp only [Xv,Yd7,Yel]
  omega
 | a :: l,i + 1,t,h => by
  have := Zbp f (l:=l) (i:=i) (t:=t) h
  simp only [Xv,Yd7,Yel] at this ⊢
  omega
theorem Jf {l : List Th} {j : Nat} {u : Th} (h : (l.set i t')[j]? = some u) : (j = i ∧ u = t') ∨ (j ≠ i ∧ l[j]? = some u) := by
 rw [Yem] at h
 by_cases e : i = j
 ·subst e
  rw [if_pos rfl] at h
  split at h
  ·cases h; exact .inl ⟨rfl,rfl⟩
  ·cases h
 ·rw [if_neg e] at h
  exact .inr ⟨fun x => e x.symm,h⟩
theorem Zcn {l : List Th} (h : l[i]? = some t) : (l.set i t')[i]? = some t' := by
 have hi : i < l.length := by
  rcases Nat.lt_or_ge i l.length with a | a
  ·exact a
  ·rw [Yer a] at h; cases h
 rw [Yem,if_pos rfl,if_pos hi]
theorem Zay {l : List Th} {j : Nat} (h : j ≠ i) : (l.set i t')[j]? = l[j]? := by
 rw [Yem,if_neg (fun e => h e.symm)]
theorem Ziy {l : List Th} (h : l[i]? = some t) (hp : t'.prog = t.prog) : (l.set i t').map (·.prog) = l.map (·.prog) := by
 apply List.ext_getElem?
 intro j
 simp only [List.getElem?_map]
 by_cases e : j = i
 ·subst e
  rw [Zcn h,h]
  simp [hp]
 ·rw [Zay e]
def Zu (t : Th) : Prop := t.ph = 5 ∨ t.ph = 6 ∨ t.ph = 7 ∨ t.ph = 8 ∨ t.ph = 16 ∨ (10 ≤ t.ph ∧ t.ph ≤ 15 ∧ t.back ≠ 1)
instance (t : Th) : Decidable (Zu t) := by unfold Zu; infer_instance
def Zal (t : Th) : Nat := if Zu t then t.prog.length - t.op - 1 else t.prog.length - t.op
structure ThA (cap : Int) (given : Nat) (t : Th) : Prop where
 op : t.op ≤ t.prog.length
 ph : 0 ≤ t.ph ∧ t.ph ≤ 16
 at_ : t.ph ≠ 0 → ∃ o,t.prog[t.op]? = some o ∧ t.com.d = o.d ∧ t.com.k = o.k ∧ (t.ph = 4 ∨ t.ph = 5 → o.d = 1 ∨ o.d = 2 ∨ o.d = 3) ∧ (¬ Zu t → t.com = Yz o ∧ t.err = 0 ∧ (o.d = 1 ∨ (o.d = 2 ∧ 0 ≤ o.w ∧ o.w ≤ cap) ∨ o.d = 3 ∨ o.d = 4) ∧ (t.ph ≠ 9 → o.d ≠ 4) ∧ (o.d = 1 → t.ph = 3 ∨ t.ph = 4))
 err : t.ph ≠ 16 → t.err = 0 ∨ t.ph = 0
 six : t.ph = 6 → t.com.d = 1
 back : t.back = 0 ∨ t.back = 1 ∨ t.back = 16
 back1 : 10 ≤ t.ph ∧ t.ph ≤ 15 → t.back ≠ 0
 node : 0 ≤ t.node ∧ t.node ≤ given
 vic : (t.ph = 12 ∨ t.ph = 13 ∨ t.ph = 14) → t.vic ≠ []
 vicR : ∀ v ∈ t.vic,1 ≤ v ∧ v ≤ given
theorem ThA.mono {cap : Int} {g' : Nat} (h : ThA cap g t) (hg : g ≤ g') : ThA cap g' t :=
 { h with node := ⟨h.node.1,by have := h.node.2; omega⟩,vicR := fun v hv => by have := h.vicR v hv; omega }
theorem Zdb {o : Op} (h : t.prog[t.op]? = some o) : t.op < t.prog.length := by
 rcases Nat.lt_or_ge t.op t.prog.length with a | a
 ·exact a
 ·rw [Yer a] at h; cases h
structure X7 (N : Nat) (ps : List (List Op)) (s : St) : Prop where
 cap : 0 ≤ s.cap ∧ s.cap ≤ 512
 n : 1 ≤ s.sh.n ∧ s.sh.n ≤ 64
 rl : 1 ≤ s.rings.length ∧ s.rings.length ≤ 64
 progs : s.ths.map (·.prog) = ps
 th : ∀ (i : Nat) (t : Th),s.ths[i]? = some t → ThA s.cap s.sh.given t
 ke : Yo s.sh.ent
 kk : Yo s.sh.keys
 km : Yo s.keys
 e1 : ∀ k e,Zk s.sh.ent k = some e → e.k = k ∧ Zk s.sh.keys e.n = some k ∧ (1 ≤ e.n ∧ e.n ≤ s.sh.given) ∧ 0 ≤ e.w ∧ e.w ≤ s.cap
 e2 : ∀ n k,Zk s.sh.keys n = some k → ∃ e,Zk s.sh.ent k = some e ∧ e.n = n
 k1 : ∀ n k,Zk s.keys n = some k → 1 ≤ n ∧ n ≤ s.sh.given
 evs : Qz s.cap (s.evs ++ s.wr.q)
 adds : ∀ n ∈ Y6 (s.evs ++ s.wr.q),1 ≤ n ∧ n ≤ s.sh.given
 pol : s.pol = ((Xn s.cap s.seed).play s.evs).1
 rings : ∀ r ∈ s.rings,∀ v ∈ r.q,0 ≤ v ∧ v ≤ 65536
 giv : s.sh.given + Xv Zal s.ths ≤ N
theorem X7.irr {N : Nat} (h : X7 N ps s) (a : Int) (b : List (Int × Bool)) (c : List Rec) (d : Nat) : X7 N ps { s with status := a,locks := b,recs := c,wr := { s.wr with res := d } } :=
 ⟨h.cap,h.n,h.rl,h.progs,h.th,h.ke,h.kk,h.km,h.e1,h.e2,h.k1,h.evs,h.adds,h.pol,h.rings,h.giv⟩
theorem X7.set {N : Nat} (h : X7 N ps s) (ht : s.ths[i]? = some t) (hp : t'.prog = t.prog) (ha : ThA s.cap s.sh.given t') (hd : Zal t' ≤ Zal t) : X7 N ps (Zl s i t') := by
 refine ⟨h.cap,h.n,h.rl,(Ziy ht hp).trans h.progs,fun j u hu => ?_,h.ke,h.kk,h.km,h.e1,h.e2,h.k1,h.evs,h.adds,h.pol,h.rings,?_⟩
 ·rcases Jf hu with ⟨rfl,rfl⟩ | ⟨_,hj⟩
  ·exact ha
  ·exact h.th j u hj
 ·have := Qi Zal t' ht
  have := h.giv
  show s.sh.given + Xv Zal (s.ths.set i t') ≤ N
  omega
theorem Zi5 (h : Zu t) : Zal t = t.prog.length - t.op - 1 := by unfold Zal; rw [if_pos h]
theorem Zhg (h : ¬ Zu t) : Zal t = t.prog.length - t.op := by unfold Zal; rw [if_neg h]
theorem Vj (hp : t'.prog = t.prog) (ho : t'.op = t.op) (h : Zu t → Zu t') : Zal t' ≤ Zal t := by
 unfold Zal
 rw [hp,ho]
 by_cases a : Zu t
 ·rw [if_pos a,if_pos (h a)]; exact Nat.le_refl _
 ·rw [if_neg a]
  split <;> omega
theorem ThA.to {cap : Int} (h : ThA cap g t) (ph : Int) (h0 : t.ph ≠ 0) (hr : 1 ≤ ph ∧ ph ≤ 16) (h45 : ph = 4 ∨ ph = 5 → t.ph = 4 ∨ t.ph = 3) (hpast : Zu t → Zu { t with ph := ph }) (hnp : ¬ Zu { t with ph := ph } → ph ≠ 9 ∧ t.ph ≠ 9 ∧ (ph = 3 ∨ ph = 4 ∨ (t.ph ≠ 3 ∧ t.ph ≠ 4))) (h6 : ph = 6 → t.com.d = 1) (hb : 10 ≤ ph ∧ ph ≤ 15 → t.back ≠ 0) (hv : (ph = 12 ∨ ph = 13 ∨ ph = 14) → t.vic ≠ []) (he : t.ph ≠ 16) : ThA cap g { t with ph := ph } := by
 obtain ⟨o,ho,hd,hk,h4,hn⟩ := h.at_ h0
 refine ⟨h.op,⟨by show 0 ≤ ph; omega,hr.2⟩,fun _ => ⟨o,ho,hd,hk,fun hx => ?_,fun hx => ?_⟩,fun _ => ?_,h6,h.back,hb,h.node,hv,h.vicR⟩
 ·rcases h45 hx with a | a
  ·exact h4 (.inl a)
  ·have hnp3 : ¬ Zu t := by unfold Zu; omega
   obtain ⟨_,_,b,c,_⟩ := hn hnp3
   have := c (by omega)
   omega
 ·have hp : ¬ Zu t := fun a => hx (hpast a)
  obtain ⟨b1,b2,b3,b4,b5⟩ := hn hp
  obtain ⟨c1,c2,c3⟩ := hnp hx
  refine ⟨b1,b2,b3,fun _ => b4 c2,fun d => ?_⟩
  have := b5 d
  show ph = 3 ∨ ph = 4
  omega
 ·rcases h.err he with a | a
  ·exact .inl a
  ·exact absurd a h0
theorem ThA.goes {cap : Int} (h : ThA cap g t) (ph : Int) (h0 : t.ph ≠ 0) (hr : 1 ≤ ph ∧ ph ≤ 16) (he : t.ph ≠ 16) (hc : (t.ph = 1 ∧ (ph = 2 ∨ ph = 3)) ∨ (t.ph = 2 ∧ ph = 1) ∨ (t.ph = 3 ∧ ph = 4) ∨ (t.ph = 5 ∧ (ph = 7 ∨ ph = 16 ∨ (ph = 6 ∧ t.com.d = 1))) ∨ (t.ph = 6 ∧ (ph = 8 ∨ ph = 16)) ∨ (t.ph = 7 ∧ ph = 8) ∨ (t.ph = 8 ∧ ph = 16) ∨ (10 ≤ t.ph ∧ t.ph ≤ 15 ∧ 10 ≤ ph ∧ ph ≤ 15) ∨ (10 ≤ t.ph ∧ t.ph ≤ 15 ∧ ph = t.back)) (hv : (ph = 12 ∨ ph = 13 ∨ ph = 14) → t.vic ≠ []) : ThA cap g { t with ph := ph } := by
 have hb := h.back
 have hb1 := h.back1
 refine h.to ph h0 hr (by omega) ?_ ?_ (by omega) (by omega) hv he
 ·unfold Zu; simp only; omega
 ·unfold Zu; simp only; omega
structure MBs (own : Nat → Nat) (w w' : World) (L : ML) (s' : St) (k m : Nat) (own' : Nat → Nat) (L' : ML) : Prop where
 ext : Ext w own own'
 mat : MAt own' w' L' s'
 only : Zb (NG own) w w'
 p : L'.p = L.p
 tx : L'.tx = L.tx
 cn : L'.cn ≤ L.cn + k
 wn : L'.wn ≤ L.wn + m
theorem MBs.mq {s' : St} {L' : ML} (h : MBs own w w' L s' k m own' L') : MQ own w w' L s' k m := ⟨own',L',h.ext,h.mat,h.only,h.p,h.tx,h.cn,h.wn⟩
theorem MQ.bs {s' : St} (h : MQ own w w' L s' k m) : ∃ own' L',MBs own w w' L s' k m own' L' := by
 obtain ⟨own',L',h1,h2,h3,h4,h5,h6,h7⟩ := h
 exact ⟨own',L',h1,h2,h3,h4,h5,h6,h7⟩
theorem MBs.go {s2 : St} {k' m' : Nat} {L2 : ML} (h : MBs own w w1 L s1 k m own1 L1) (he : Ext w1 own1 own2) (hm : MAt own2 w2 L2 s2) (ho : Zb S w1 w2) (hS : ∀ b,b < w1.heap.size → S b → own1 b ≠ 19 ∨ w.heap.size ≤ b) (hp : L2.p = L1.p) (ht : L2.tx = L1.tx) (hc : L2.cn ≤ L1.cn + k') (hn : L2.wn ≤ L1.wn + m') : MBs own w w2 L s2 (k + k') (m + m') own2 L2 := by
 refine ⟨h.ext.trans h.only.size he,hm,⟨ho.os.trans h.only.os,ho.tape.trans h.only.tape,ho.output.trans h.only.output,Nat.le_trans h.only.size ho.size,fun b hb hT => ?_⟩,hp.trans h.p,ht.trans h.tx,by have := h.cn; omega,by have := h.wn; omega⟩
 have hlt := Nat.lt_of_lt_of_le hb h.only.size
 refine (ho.block b hlt (fun hs => ?_)).trans (h.only.block b hb hT)
 rcases hS b hlt hs with e | e
 ·rw [h.ext b hb] at e
  exact hT e
 ·omega
theorem MBs.sm (h : MBs own w w1 L s1 k m own1 L1) (hs : Sm w1 w2) : MBs own w w2 L s1 k m own1 L1 := ⟨h.ext,h.mat.sm hs,Sm.then_only h.only hs,h.p,h.tx,h.cn,h.wn⟩
theorem MAt.old (h : MAt own w L s) (hW : Zb No w W) : MBs own w W L s 0 0 (ext own w.heap.size 7) L := ⟨Jp _ _ _,h.kept (Jp _ _ _) hW (fun _ _ _ h => h),hW.no,rfl,rfl,by omega,by omega⟩
theorem MBs.no (h : MBs own w w1 L s1 k m own1 L1) (ho : Zb S w1 w2) (hS : ∀ b,b < w1.heap.size → S b → own1 b = 7 ∧ w.heap.size ≤ b) : MBs own w w2 L s1 k m own1 L1 := by
 have q := h.go (k':=0) (m':=0) (Ext.refl _ _) (h.mat.kept (Ext.refl _ _) ho (fun b hb hl e => by have := (hS b hb e).1; unfold ShL at hl; omega)) ho (fun b hb e => .inr (hS b hb e).2) rfl rfl (by omega) (by omega)
 exact q
def Bx (own : Nat → Nat) (w W : World) : Prop := ∀ b,w.heap.size ≤ b → b < W.heap.size → own b = 7
theorem Bx.new (own : Nat → Nat) (w W : World) : Bx (ext own w.heap.size 7) w W := fun _ hb _ => Jz hb
theorem Bx.ext {W1 : World} (h : Bx own w W) (he : Ext W1 own own') (hs : W.heap.size ≤ W1.heap.size) : Bx own' w W := fun b hb hl => (he b (by omega)).trans (h b hb hl)
theorem Zd7 (h : MBs own w W L s k m own1 L1) (ht : s.ths[i]? = some t) (hb : Bx own1 w W) (ho : Zb S W w1) (hS : ∀ b,S b → own1 b ≠ 7 ∧ own1 b ≠ 0 ∧ ¬ (70 ≤ own1 b ∧ own1 b < 134)) : Zdt w W w1 (L.tx i) L.p (Pt L1.ex) := by
 have T := h.mat.ths i t ht
 have ox := T.ox
 have op := h.mat.op
 have hi := Zat h.mat ht
 rw [← h.p,← h.tx]
 refine ⟨Zd (w:=W) (Za T.block rfl) ho (fun e => ?_),Zd (w:=W) (Za h.mat.parts rfl) ho (fun e => ?_),fun b o hge hbl => ho.kept hbl (fun e => ?_)⟩
 ·have e' : S (L1.tx i) := e
  exact (hS _ e').2.2 (by omega)
 ·exact (hS _ e).2.1 op
 ·exact (hS _ e).1 (hb b hge (Ze hbl))
theorem Zj8 {b : Nat} (h : ShL own b) : own b ≠ 7 ∧ own b ≠ 0 ∧ ¬ (70 ≤ own b ∧ own b < 134) := by unfold ShL at h; omega
theorem Ya1 {b : Nat} (h : No b) : own b ≠ 7 ∧ own b ≠ 0 ∧ ¬ (70 ≤ own b ∧ own b < 134) := (h : False).elim
theorem MBs.cells (h : MBs own w w1 L s k m own1 L1) (ht : s.ths[i]? = some t) : w1.heap[L.tx i]? = some (thC L1 i t) ∧ w1.heap[L.p]? = some (paC L1 s) := by
 rw [← h.p,← h.tx]
 exact ⟨(h.mat.ths i t ht).block,h.mat.parts⟩
theorem Zxw (x : Option Ent) : (x.getD Zy).v = (x.map (·.v)).getD 0 := by cases x <;> rfl
theorem Zxv (x : Option Ent) : (x.getD Zy).n = (x.map (·.n)).getD 0 := by cases x <;> rfl
theorem Zwp (h : MAt own w L s) (ht : s.ths[i]? = some t) (o : Op) :
  Calls Tryz.prog 136 #[Pt (L.tx i),opA o] w fun e w' => e = .returned (.tuple #[]) ∧ MQ own w w' L (Zl s i { t with com := { t.com with v := ((Zk s.sh.ent o.k).map (·.v)).getD 0,h := (Zk s.sh.ent o.k).isSome },node := ((Zk s.sh.ent o.k).map (·.n)).getD 0 }) 0 0 := by
 have T := h.ths i t ht
 refine Zsg (ex:=L.ex) (Rc:=fun W w1 => Zb No W w1) (R1:=fun nb w2 => MBs own w w2 L s 0 0 (ext own w.heap.size 7) L ∧ w.heap.size < nb ∧ w2.heap[nb]? = some (Z0 ((Zk s.sh.ent o.k).getD Zy))) o ((Zk s.sh.ent o.k).getD Zy) (Zk s.sh.ent o.k).isSome (Za T.block rfl) (Za h.parts rfl) (Ydy fun W hW => ?_) (Ydy fun W w1 w2 n1 hW hR ho hb1 hb2 hlt _ _ => ?_) (Ydy fun nb w2 q => ?_)
 ·have q := h.old hW
  exact (Yc2 q.mat.sh o.k).mono fun _ w1 z => ⟨z.1,z.2,Zd7 q ht (Bx.new _ _ _) z.2 (fun _ e => Ya1 e)⟩
 ·have q := (h.old hW).no hR (fun _ _ e => (e : False).elim)
  exact ⟨q.no ho (fun b _ e => ⟨Jz e.1,e.1⟩),hlt,hb2⟩
 ·obtain ⟨q,hlt,hb⟩ := q
  obtain ⟨c1,-⟩ := q.cells ht
  have U := q.mat.ths i t ht
  have hi := Zat q.mat ht
  have ox : ext own w.heap.size 7 (L.tx i) = 70 + i := U.ox
  have hne : L.tx i ≠ nb := fun e => by rw [e,Jz (by omega)] at ox; omega
  refine ⟨hne,hb,⟨_,Za c1 rfl⟩,⟨_,Za c1 rfl⟩,⟨_,Za c1 rfl⟩,fun j => Zc c1 j,fun W' hs => ?_⟩
  have ho : Zb (fun b => b = L.tx i) w2 (((w2.setCell ⟨L.tx i,7,none⟩ (.int .i64 ((Zk s.sh.ent o.k).getD Zy).v)).setCell ⟨L.tx i,8,none⟩ (.bool (Zk s.sh.ent o.k).isSome)).setCell ⟨L.tx i,10,none⟩ (.int .i64 ((Zk s.sh.ent o.k).getD Zy).n)) := (((Zb.refl (fun b => b = L.tx i) w2).setCell (.inl rfl) _).setCell (.inl rfl) _).setCell (.inl rfl) _
  have e1 := Zxw (Zk s.sh.ent o.k)
  have e2 := Zxv (Zk s.sh.ent o.k)
  have m := q.mat.cell (t':={ t with com := { t.com with v := ((Zk s.sh.ent o.k).map (·.v)).getD 0,h := (Zk s.sh.ent o.k).isSome },node := ((Zk s.sh.ent o.k).map (·.n)).getD 0 }) ht ho (by rw [← e1,← e2]; exact Zj (Zj (Zj c1 7 _) 8 _) 10 _) rfl rfl
  have z := q.go (k':=0) (m':=0) (Ext.refl _ _) m ho (fun b _ e => .inl (by have e' : b = L.tx i := e; rw [e']; omega)) rfl rfl (by omega) (by omega)
  exact (z.sm hs).mq
def ShB (own : Nat → Nat) (w : World) (L : ML) (s : St) (sh : Sh) (o : Op) (e : Ent) (nb : Nat) (w2 : World) : Prop := ∃ own2 el,MBs own w w2 L { s with sh := sh } 0 0 own2 { L with el := el } ∧ (w.heap.size < nb ∧ own2 nb = 7 ∧ own2 w.heap.size = 7) ∧ w2.heap[w.heap.size]? = some (opO o) ∧ w2.heap[nb]? = some (Z0 e)
def ShC (own : Nat → Nat) (w : World) (L : ML) (s : St) (sh : Sh) (W w1 : World) : Prop := ∃ own2 el,MBs own w w1 L { s with sh := sh } 0 0 own2 { L with el := el } ∧ Bx own2 w W ∧ W.heap.size ≤ w1.heap.size
theorem MBs.shards (q : MBs own w W L s k m own1 L1) (he : Ext W own1 own2) (hs : Y4 own2 w1 L1.ex el sh) (ho : Zb (ShL own1) W w1) : MBs own w w1 L { s with sh := sh } k m own2 { L1 with el := el } :=
 q.go (k':=0) (m':=0) he (q.mat.shards he ho hs) ho (fun b _ e => .inl (by unfold ShL at e; omega)) rfl rfl (by simp) (by simp)
theorem ShC.of (q : MBs own w W L s 0 0 (ext own w.heap.size 7) L) (he : Ext W (ext own w.heap.size 7) own2) (hs : Y4 own2 w1 L.ex el sh) (ho : Zb (ShL (ext own w.heap.size 7)) W w1) : ShC own w L s sh W w1 := ⟨own2,el,q.shards he hs ho,(Bx.new own w W).ext he (Nat.le_refl _),ho.size⟩
theorem ShC.box {o : Op} {e : Ent} {nb : Nat} (hr : ShC own w L s sh W w1) (ho : Zb (Zp6 w W) w1 w2) (hb1 : w2.heap[w.heap.size]? = some (opO o)) (hb2 : w2.heap[nb]? = some (Z0 e)) (hlt : w.heap.size < nb) (hor : nb < W.heap.size ∨ w1.heap.size ≤ nb) (hwW : w.heap.size < W.heap.size) : ShB own w L s sh o e nb w2 := by
 obtain ⟨own2,el,q,hx,hsz⟩ := hr
 have hE : Ext w1 own2 (ext own2 w1.heap.size 7) := Jp _ _ _
 have q2 : MBs own w w1 L { s with sh := sh } 0 0 (ext own2 w1.heap.size 7) { L with el := el } := by
  have z := q.go (k':=0) (m':=0) hE (q.mat.kept hE (Zb.refl No w1) (fun _ _ _ h => h)) (Zb.refl No w1) (fun _ _ e => (e : False).elim) rfl rfl (by omega) (by omega)
  exact z
 have ho7 : ∀ b,w.heap.size ≤ b → b < W.heap.size → ext own2 w1.heap.size 7 b = 7 := fun b h1 h2 => by rw [Zz (by omega)]; exact hx b h1 h2
 refine ⟨ext own2 w1.heap.size 7,el,q2.no ho (fun b _ e => ⟨ho7 b e.1 e.2,e.1⟩),⟨hlt,?_,ho7 _ (Nat.le_refl _) hwW⟩,hb1,hb2⟩
 rcases hor with h | h
 ·exact ho7 nb (by omega) h
 ·exact Jz h
theorem MBs.writes {m' : Nat} (q : MBs own w W L s k m own1 L1) {b : Wr} {n : Nat} (he : Ext W own1 own2) (hs : Kx own2 w1 L1.wx L1.wm n b) (ho : Zb (WrL own1) W w1) (hn : n ≤ L1.wn + m') : MBs own w w1 L { s with wr := b } k (m + m') own2 { L1 with wn := n } :=
 q.go (k':=0) (m':=m') he (q.mat.writes he ho hs) ho (fun b _ e => .inl (by have e' : own1 b = 60 ∨ own1 b = 61 := e; omega)) rfl rfl (by simp) hn
theorem MBs.store {W' : World} (q : MBs own w W L s k m own1 L1) (ht : s.ths[i]? = some t) (ho : Zb (fun b => b = L.tx i) W W') (hb : W'.heap[L.tx i]? = some (thC L1 i t')) (hp : t'.prog = t.prog) (hv : t'.vic = t.vic) : MBs own w W' L (Zl s i t') k m own1 L1 := by
 have U := q.mat.ths i t ht
 have ox := U.ox
 rw [q.tx] at ox
 have e := q.tx
 have hi := Zat q.mat ht
 exact q.go (k':=0) (m':=0) (Ext.refl _ _) (q.mat.cell ht (by rw [e]; exact ho) (by rw [e]; exact hb) hp hv) ho (fun b _ e => .inl (by have e' : b = L.tx i := e; rw [e']; omega)) rfl rfl (by omega) (by omega)
theorem Zfu (h : MAt own w L s) (ht : s.ths[i]? = some t) (ok : Zge s.sh) (o : Op) (hr : 0 < s.wr.res) (hn : L.wn < 100000) :
  Calls Tryz.prog 138 #[Pt (L.tx i),opA o] w fun en w' => en = .returned (.tuple #[]) ∧ MQ own w w' L (match Zk s.sh.ent o.k with
   | some e => Zl { s with sh := s.sh.remove o.k,wr := { s.wr with res := s.wr.res - 1,q := s.wr.q ++ [⟨4,e.n,o.k,e.w⟩] } } i { t with com := { t.com with v := e.v,h := true } }
   | none => Zl { s with wr := { s.wr with res := s.wr.res - 1 } } i { t with com := { t.com with v := 0,h := false } }) 0 1 := by
 have T := h.ths i t ht
 refine Zkc (ex:=L.ex) (wx:=L.wx) (Rc:=ShC own w L s (s.sh.remove o.k)) (R1:=ShB own w L s (s.sh.remove o.k) o ((Zk s.sh.ent o.k).getD Zy)) o ((Zk s.sh.ent o.k).getD Zy) (Zk s.sh.ent o.k).isSome (Za T.block rfl) (Za h.parts rfl) (Ydy fun W hW => ?_) (Ydy fun W w1 w2 n1 _ hR ho hb1 hb2 hlt hor hwW => ?_) (Ydy fun nb w2 q => ?_) (Ydy fun nb w2 W q hs => ?_)
 ·have q := h.old hW
  refine (Zwc q.mat.sh ok o.k).mono fun _ w1 z => ?_
  obtain ⟨z1,own2,el,z2,z3,z4,z5⟩ := z
  exact ⟨z1,ShC.of q z2 z3 z5,Zd7 q ht (Bx.new _ _ _) z5 (fun _ e => Zj8 e)⟩
 ·exact ShC.box hR ho hb1 hb2 hlt hor hwW
 ·obtain ⟨own2,el,q,⟨q1,q2,q3⟩,q4,q5⟩ := q
  obtain ⟨c1,-⟩ := q.cells ht
  have U := q.mat.ths i t ht
  have hi := Zat q.mat ht
  have ox : own2 (L.tx i) = 70 + i := U.ox
  exact ⟨fun e => by rw [e,q2] at ox; omega,q5,⟨_,Za c1 rfl⟩,⟨_,Za c1 rfl⟩,fun j => Zc c1 j⟩
 ·obtain ⟨own2,el,q,⟨q1,q2,q3⟩,q4,q5⟩ := q
  obtain ⟨c1,-⟩ := q.cells ht
  have U := q.mat.ths i t ht
  have hi := Zat q.mat ht
  have ox : own2 (L.tx i) = 70 + i := U.ox
  have n1 : L.tx i ≠ nb := fun e => by rw [e,q2] at ox; omega
  have n2 : L.tx i ≠ w.heap.size := fun e => by rw [e,q3] at ox; omega
  have ho : Zb (fun b => b = L.tx i) w2 ((w2.setCell ⟨L.tx i,7,none⟩ (.int .i64 ((Zk s.sh.ent o.k).getD Zy).v)).setCell ⟨L.tx i,8,none⟩ (.bool (Zk s.sh.ent o.k).isSome)) := ((Zb.refl (fun b => b = L.tx i) w2).setCell (.inl rfl) _).setCell (.inl rfl) _
  have z := (q.store (t':={ t with com := { t.com with v := ((Zk s.sh.ent o.k).getD Zy).v,h := (Zk s.sh.ent o.k).isSome } }) ht ho (Zj (Zj c1 7 _) 8 _) rfl rfl).sm hs
  have b4 := hs.block (ho.kept q4 (Ne.symm n2))
  have b5 := hs.block (ho.kept q5 (Ne.symm n1))
  obtain ⟨d1,d2⟩ := z.cells (Xo (s:={ s with sh := s.sh.remove o.k }) ht _)
  refine ⟨Za d1 rfl,Za d2 rfl,Za b4 rfl,Za b5 rfl,Za b5 rfl,fun he => ?_,fun he => ?_⟩
  ·cases hg : Zk s.sh.ent o.k with
   | none => rw [hg] at he; cases he
   | some e =>
    rw [hg] at z
    refine (Zhm z.mat.wr hr hn ⟨4,e.n,o.k,e.w⟩).mono fun _ _ r => ?_
    obtain ⟨own3,r1,r2,r3,r4⟩ := r
    exact ⟨r1,(z.writes (m':=1) r2 r3 r4 (by simp)).mq⟩
  ·cases hg : Zk s.sh.ent o.k with
   | some e => rw [hg] at he; cases he
   | none =>
    have hrm : s.sh.remove o.k = s.sh := by unfold Sh.remove; rw [hg]
    rw [hg,hrm] at z
    refine (Zja z.mat.wr hr).mono fun _ _ r => ?_
    obtain ⟨r1,r3,r4⟩ := r
    exact ⟨r1,(z.writes (m':=1) (Ext.refl _ _) r3 r4 (by simp)).mq⟩
section
attribute [local go_sem] World.setCell_drew Zg Zf
def evF (e : Ev) : List Value := [.int .i64 e.d,.int .i64 e.n,.int .i64 e.k,.int .i64 e.w]
theorem Zna (own : Nat → Nat) (p tx px n : Nat) (a0 a1 a3 a4 a5 a6 a7 v : Value) (xs : List Value) (r : Ev) (w : World) (R : Value → World → Prop) (hb : w.heap[p]? = some (.cells #[a0,a1,Pt px,a3,a4,a5,a6,a7,v] 63 (0,0))) (c0 : w.cell? ⟨tx,0,none⟩ = some (Pt p)) (hx : own p ≠ 6) (ht : own tx ≠ 6) (hpt : tx ≠ p) (hR : Row own 6 w 93 4 v n xs) (hn : n ≤ 1000000)
  (HC : Hid (∀ W,Zw4 own 6 p (n + 1) 93 4 (fun v' => .cells #[a0,a1,Pt px,a3,a4,a5,a6,a7,v'] 63) (xs ++ evF r) w W → Calls Tryz.prog 34 #[Pt px,.agg #[.int .i64 r.d,.int .i64 r.n,.int .i64 r.k,.int .i64 r.w]] W fun e w' => ∃ u k,e = .returned (.tuple #[u,.int .i64 k]) ∧ R u w')) :
  Calls Tryz.prog 144 #[Pt tx,.agg #[.int .i64 r.d,.int .i64 r.n,.int .i64 r.k,.int .i64 r.w]] w fun e w' => ∃ u,e = .returned u ∧ R u w' := by
 have hxb := Ze hb
 have c8 : w.cell? ⟨p,8,none⟩ = some v := Za hb rfl
 have c2 : w.cell? ⟨p,2,none⟩ = some (Pt px) := Za hb rfl
 have hxne : p ≠ w.heap.size := Nat.ne_of_lt hxb
 have hxne2 : w.heap.size ≠ p := Nat.ne_of_gt hxb
 have htx : tx < w.heap.size := World.block_lt_of_cell? w _ c0
 have f8 : w.frozen? ⟨p,8,none⟩ = false := Zc hb 8
 have hnx : v.ownBlock ≠ some p := fun e => hx (hR.2 p e)
 have hnw : v.ownBlock ≠ some w.heap.size := fun e => Nat.lt_irrefl _ (hR.lt e)
 have HV : Hid (∀ g,v.ownBlock = some g → own g = 6) := Ydy hR.2
 have HR := Ydy hR
 have HB := Ydy hb
 clear hR hb
 go_enter Tryz.func144,Tryz.ntmps144
 go_wp2
 have HRW : Hid (∀ o1 o2,Row own 6 (((w.alloc o1).drew).alloc o2) 93 4 v n xs) := Ydy fun o1 o2 => (HR.out.kept (S:=fun _ => False) (fun _ _ => rfl) ((((Zb.refl _ w).alloc o1).drew).alloc o2) (fun _ _ _ h => h))
 have HN : Hid (∀ o1 o2,(((w.alloc o1).drew).alloc o2).heap[w.heap.size + 1]? = some o2) := Ydy (fun o1 o2 => by
  have h := Zh ((w.alloc o1).drew) o2
  rw [show ((w.alloc o1).drew).heap.size = w.heap.size + 1 from by simp [World.drew]] at h
  exact h)
 have HQ : Hid (∀ o1 o2 w4,(((w.alloc o1).drew).alloc o2).grownBy w4 v.ownBlock → w4.heap[p]? = some (.cells #[a0,a1,Pt px,a3,a4,a5,a6,a7,v] 63 (0,0))) := Ydy fun o1 o2 w4 hg => (hg.block p (by simp [World.drew]; omega) (Ne.symm hnx)).trans (Zm (w:=(w.alloc o1).drew) (Zm HB.out))
 have hnt : v.ownBlock ≠ some tx := fun e => ht (HV.out tx e)
 have HT : Hid (∀ o1 o2 w4,(((w.alloc o1).drew).alloc o2).grownBy w4 v.ownBlock → (∀ j,w4.cell? ⟨tx,j,none⟩ = w.cell? ⟨tx,j,none⟩)) := Ydy fun o1 o2 w4 hg j => World.cell?_of_block (show w4.heap[tx]? = w.heap[tx]? from (hg.block tx (by simp [World.drew]; omega) (Ne.symm hnt)).trans (by
  have h1 := RowKit.Below.heap_alloc w o1 tx htx
  have h2 := RowKit.Below.heap_alloc ((w.alloc o1).drew) o2 tx (by simp [World.drew]; omega)
  exact h2.trans h1))
 have HX : Hid (∀ o1 o2 w4,(((w.alloc o1).drew).alloc o2).grownBy w4 v.ownBlock → w4.heap[w.heap.size]? = some o1) := Ydy fun o1 o2 w4 hg => (hg.block _ (by simp [World.drew]; omega) (Ne.symm hnw)).trans (Zm (w:=(w.alloc o1).drew) (Zh w o1))
 have HO : Hid (∀ o1 o2 w4,(((w.alloc o1).drew).alloc o2).grownBy w4 v.ownBlock → Zb (fun b => b = p ∨ own b = 6) w w4) := Ydy fun o1 o2 w4 hg => ((((Zb.refl _ w).alloc o1).drew).alloc o2).trans ⟨hg.os,hg.tape,hg.output,hg.size,fun b hb hn => hg.block b hb (fun e => hn (.inr (HV.out b e.symm)))⟩
 have htw : tx ≠ w.heap.size := Nat.ne_of_lt htx
 have hpt' : p ≠ tx := Ne.symm hpt
 refine wp_region_held_drew (S:=fun w' => w'.cell? ⟨tx,0,none⟩ = some (Pt p) ∧ w'.cell? ⟨p,2,none⟩ = some (Pt px) ∧ w'.cell? ⟨w.heap.size,0,none⟩ = some (.int .i64 r.d) ∧ w'.cell? ⟨w.heap.size,1,none⟩ = some (.int .i64 r.n) ∧ w'.cell? ⟨w.heap.size,2,none⟩ = some (.int .i64 r.k) ∧ w'.cell? ⟨w.heap.size,3,none⟩ = some (.int .i64 r.w)) (by kernel_rfl) (by go_keep) (fun hS => ?_)
 refine wpAnyH_take (i:=0) (v:=?av0) rfl (by kernel_rfl) (by kernel_rfl) (by kernel_rfl) (fun _ _ _ h => h) (Yec ⟨by rfl,?ah0⟩) hS ?ar0
 case ah0 => (intro w hSw; dsimp only [Yd1,Ydz,Yd0] at hSw ⊢; go_simp; try with_reducible rfl)
 dsimp only [Yd1,Ydz,Yd0]
 simp only [Act.put,Yd2,Yd4,Yd3]
 refine wpAnyH_take (i:=1) (v:=?av1) rfl (by kernel_rfl) (by kernel_rfl) (by kernel_rfl) (fun _ _ _ h => h) (Yec ⟨by rfl,?ah1⟩) hS ?ar1
 case ah1 => (intro w hSw; dsimp only [Yd1,Ydz,Yd0] at hSw ⊢; go_simp; try with_reducible rfl)
 dsimp only [Yd1,Ydz,Yd0]
 simp only [Act.put,Yd2,Yd4,Yd3]
 refine wpAnyH_take (i:=2) (v:=?av2) rfl (by kernel_rfl) (by kernel_rfl) (by kernel_rfl) (fun _ _ _ h => h) (Yec ⟨by rfl,?ah2⟩) hS ?ar2
 case ah2 => (intro w hSw; dsimp only [Yd1,Ydz,Yd0] at hSw ⊢; go_simp; try with_reducible rfl)
 dsimp only [Yd1,Ydz,Yd0]
 simp only [Act.put,Yd2,Yd4,Yd3]
 refine wpAnyH_take (i:=3) (v:=?av3) rfl (by kernel_rfl) (by kernel_rfl) (by kernel_rfl) (fun _ _ _ h => h) (Yec ⟨by rfl,?ah3⟩) hS ?ar3
 case ah3 => (intro w hSw; dsimp only [Yd1,Ydz,Yd0] at hSw ⊢; go_simp; try with_reducible rfl)
 dsimp only [Yd1,Ydz,Yd0]
 simp only [Act.put,Yd2,Yd4,Yd3]
 refine wpAnyH_take (i:=4) (v:=?av4) rfl (by kernel_rfl) (by kernel_rfl) (by kernel_rfl) (fun _ _ _ h => h) (Yec ⟨by rfl,?ah4⟩) hS ?ar4
 case ah4 => (intro w hSw; dsimp only [Yd1,Ydz,Yd0] at hSw ⊢; go_simp; try with_reducible rfl)
 dsimp only [Yd1,Ydz,Yd0]
 simp only [Act.put,Yd2,Yd4,Yd3]
 refine wpAnyH_take (i:=5) (v:=?av5) rfl (by kernel_rfl) (by kernel_rfl) (by kernel_rfl) (fun _ _ _ h => h) (Yec ⟨by rfl,?ah5⟩) hS ?ar5
 case ah5 => (intro w hSw; dsimp only [Yd1,Ydz,Yd0] at hSw ⊢; go_simp; try with_reducible rfl)
 dsimp only [Yd1,Ydz,Yd0]
 simp only [Act.put,Yd2,Yd4,Yd3]
 refine wpAnyH_take (i:=6) (v:=?av6) rfl (by kernel_rfl) (by kernel_rfl) (by kernel_rfl) (fun _ _ _ h => h) (Yec ⟨by rfl,?ah6⟩) hS ?ar6
 case ah6 => (intro w hSw; dsimp only [Yd1,Ydz,Yd0] at hSw ⊢; go_simp; try with_reducible rfl)
 dsimp only [Yd1,Ydz,Yd0]
 simp only [Act.put,Yd2,Yd4,Yd3]
 refine wpAnyH_take (i:=7) (v:=?av7) rfl (by kernel_rfl) (by kernel_rfl) (by kernel_rfl) (fun _ _ _ h => h) (Yec ⟨by rfl,?ah7⟩) hS ?ar7
 case ah7 => (intro w hSw; dsimp only [Yd1,Ydz,Yd0] at hSw ⊢; go_simp; try with_reducible rfl)
 dsimp only [Yd1,Ydz,Yd0]
 simp only [Act.put,Yd2,Yd4,Yd3]
 refine wpAnyH_take (i:=8) (v:=?av8) rfl (by kernel_rfl) (by kernel_rfl) (by kernel_rfl) (fun _ _ _ h => h) (Yec ⟨by rfl,?ah8⟩) hS ?ar8
 case ah8 => (intro w hSw; dsimp only [Yd1,Ydz,Yd0] at hSw ⊢; go_simp; try with_reducible rfl)
 dsimp only [Yd1,Ydz,Yd0]
 simp only [Act.put,Yd2,Yd4,Yd3]
 refine wpAnyH_take (i:=9) (v:=?av9) rfl (by kernel_rfl) (by kernel_rfl) (by kernel_rfl) (fun _ _ _ h => h) (Yec ⟨by rfl,?ah9⟩) hS ?ar9
 case ah9 => (intro w hSw; dsimp only [Yd1,Ydz,Yd0] at hSw ⊢; go_simp; try with_reducible rfl)
 dsimp only [Yd1,Ydz,Yd0]
 simp only [Act.put,Yd2,Yd4,Yd3]
 refine wpAnyH_take (i:=11) (v:=?av11) rfl (by kernel_rfl) (by kernel_rfl) (by kernel_rfl) (fun _ _ _ h => h) (Yec ⟨by rfl,?ah11⟩) hS ?ar11
 case ah11 => (intro w hSw; dsimp only [Yd1,Ydz,Yd0] at hSw ⊢; go_simp; try with_reducible rfl)
 dsimp only [Yd1,Ydz,Yd0]
 simp only [Act.put,Yd2,Yd4,Yd3]
 refine wpAnyH_ready (rs:=[10,12]) (by kernel_rfl) (by simp) ?_
 refine AllReadyH.cons rfl (fun K hK => ?_) (AllReadyH.cons rfl (fun K hK => ?_) AllReadyH.nil)
 ·dsimp only [Yd1,Ydz,Yd0]
  go_simp
  refine hK.out _ _ (by (try dsimp only); go_keep) (fun hS2 => ?_)
  clear hK K hS
  have hS := hS2
  clear hS2
  try simp only [Act.put,Yd2,Yd4,Yd3]
  refine wpAnyH_ready (rs:=[12]) (by kernel_rfl) (by simp) ?_
  refine AllReadyH.cons rfl (fun K hK => ?_) AllReadyH.nil
  dsimp only [Yd1,Ydz,Yd0]
  go_simp
  refine hK.out _ _ (by (try dsimp only); go_keep) (fun hS2 => ?_)
  clear hK K hS
  have hS := hS2
  clear hS2
  try simp only [Act.put,Yd2,Yd4,Yd3]
  refine wpAnyH_ready (rs:=[13]) (by kernel_rfl) (by simp) ?_
  refine AllReadyH.cons rfl (fun K hK => ?_) AllReadyH.nil
  (refine Jx (by rfl) _ _ _ (by rfl) Zjp (by rfl) (HRW.out _ _) (B:=w.heap.size + 1) (c:=1) (cs:=#[.int .i64 r.d,.int .i64 r.n,.int .i64 r.k,.int .i64 r.w]) (tb:=93) (fr:=(0,0)) (by rfl) (HN.out _ _) (by rfl) (by simp [Value.oneCell']) hn (w.heap.size + 2) (by simp) ?_; intro g cap w4 hR4 hgrow hat hsz; have q0 := Ydy (HQ.out _ _ _ hgrow); have q1 := Za (j:=8) q0.out rfl; have q5 := Za (j:=2) q0.out rfl; have q5' := fun u => Zi (p:=⟨p,8,none⟩) (u:=u) q5 (Zp9 (by decide)); have q2 := Zc q0.out 8; have q3 := (HT.out _ _ _ hgrow 0).trans c0; have q6 := HX.out _ _ _ hgrow; have q7 := Za (j:=0) q6 rfl; have q8 := Za (j:=1) q6 rfl; have q9 := Za (j:=2) q6 rfl; have q10 := Za (j:=3) q6 rfl; clear q6; have HR4 := Ydy hR4; have HG4 := Ydy (HO.out _ _ _ hgrow); have hS4 := hgrow.size; have hS5 : w.heap.size ≠ p := hxne2; clear hR4 hgrow)
  refine hK.out _ _ (by (try dsimp only); go_keep) (fun hS2 => ?_)
  clear hK K hS
  have hS := hS2
  clear hS2
  dsimp only [Yd1,Ydz,Yd0]
  try simp only [Act.put,Yd2,Yd4,Yd3]
  refine wpAnyH_take (i:=14) (v:=?bv14) rfl (by kernel_rfl) (by kernel_rfl) (by kernel_rfl) (fun _ _ _ h => h) (Yec ⟨by rfl,?bh14⟩) hS ?br14
  case bh14 => (intro w hSw; dsimp only [Yd1,Ydz,Yd0] at hSw ⊢; go_simp; try with_reducible rfl)
  dsimp only [Yd1,Ydz,Yd0]
  simp only [Act.put,Yd2,Yd4,Yd3]
  refine wpAnyH_take (i:=15) (v:=?bv15) rfl (by kernel_rfl) (by kernel_rfl) (by kernel_rfl) (fun _ _ _ h => h) (Yec ⟨by rfl,?bh15⟩) hS ?br15
  case bh15 => (intro w hSw; dsimp only [Yd1,Ydz,Yd0] at hSw ⊢; go_simp; try with_reducible rfl)
  dsimp only [Yd1,Ydz,Yd0]
  simp only [Act.put,Yd2,Yd4,Yd3]
  refine wpAnyH_ready (rs:=[16]) (by kernel_rfl) (by simp) ?_
  refine AllReadyH.cons rfl (fun K hK => ?_) AllReadyH.nil
  dsimp only [Yd1,Ydz,Yd0]
  go_simp
  refine hK.out _ _ (by (try dsimp only); go_keep) (fun hS2 => ?_)
  clear hK K hS
  have hS := hS2
  clear hS2
  try simp only [Act.put,Yd2,Yd4,Yd3]
  refine wpAnyH_done (by kernel_rfl) ?_ _
  have HW : Hid (Zw4 own 6 p (n + 1) 93 4 (fun v' => .cells #[a0,a1,Pt px,a3,a4,a5,a6,a7,v'] 63) (xs ++ evF r) w (w4.setCell ⟨p,8,none⟩ (.slice (some ⟨g,0,none⟩) (n + 1) cap))) := Ydy (by
   refine ⟨ext own (w.heap.size + 2) 6,.slice (some ⟨g,0,none⟩) (n + 1) cap,fun b hb => Zz (by omega),HR4.out.kept (S:=fun b => b = p) (fun _ _ => rfl) ((Zb.refl (fun b => b = p) w4).setCell (p:=⟨p,8,none⟩) (.inl rfl) _) (fun b _ hb e => ?_),Zj q0.out 8 _,HG4.out.setCell (p:=⟨p,8,none⟩) (.inl (.inl rfl)) _⟩
   have e' : b = p := e
   subst e'
   rw [Zz (by omega)] at hb
   exact hx hb)
  have z0 := Zi (p:=⟨p,8,none⟩) (u:=.slice (some ⟨g,0,none⟩) (n + 1) cap) q3 (Y2 hpt')
  have z2 := Zi (p:=⟨p,8,none⟩) (u:=.slice (some ⟨g,0,none⟩) (n + 1) cap) q5 (Zp9 (by decide))
  have z7 := Zi (p:=⟨p,8,none⟩) (u:=.slice (some ⟨g,0,none⟩) (n + 1) cap) q7 (Y2 hxne)
  have z8 := Zi (p:=⟨p,8,none⟩) (u:=.slice (some ⟨g,0,none⟩) (n + 1) cap) q8 (Y2 hxne)
  have z9 := Zi (p:=⟨p,8,none⟩) (u:=.slice (some ⟨g,0,none⟩) (n + 1) cap) q9 (Y2 hxne)
  have z10 := Zi (p:=⟨p,8,none⟩) (u:=.slice (some ⟨g,0,none⟩) (n + 1) cap) q10 (Y2 hxne)
  clear HRW HN HQ HT HX HO q0 q1 q2 q3 q5 q5' q7 q8 q9 q10 HR4 HG4 c0 c2 c8 f8 hS HV HR HB hS4
  revert z0 z2 z7 z8 z9 z10 HW
  generalize w4.setCell ⟨p,8,none⟩ (.slice (some ⟨g,0,none⟩) (n + 1) cap) = w5
  intro HW z0 z2 z7 z8 z9 z10
  have HC5 := Ydy (HC.out w5.drew (by
   obtain ⟨o',v',k1,k2,k3,k4⟩ := HW.out
   have hs : Sm w5 w5.drew := ⟨rfl,rfl,rfl,rfl⟩
   exact ⟨o',v',k1,k2.sm hs,hs.block k3,k4.trans hs.only⟩))
  clear HC HW
  go_wp2
  go_region_with (first | (go_at_call 34; refine (HC5.out).mono ?_; rintro e w6 ⟨u,k,rfl,hq⟩))
  all_goals (try go_wp2)
  all_goals
   go_ret
   exact ⟨u,rfl,hq⟩
 ·dsimp only [Yd1,Ydz,Yd0]
  go_simp
  refine hK.out _ _ (by (try dsimp only); go_keep) (fun hS2 => ?_)
  clear hK K hS
  have hS := hS2
  clear hS2
  try simp only [Act.put,Yd2,Yd4,Yd3]
  refine wpAnyH_ready (rs:=[10]) (by kernel_rfl) (by simp) ?_
  refine AllReadyH.cons rfl (fun K hK => ?_) AllReadyH.nil
  dsimp only [Yd1,Ydz,Yd0]
  go_simp
  refine hK.out _ _ (by (try dsimp only); go_keep) (fun hS2 => ?_)
  clear hK K hS
  have hS := hS2
  clear hS2
  try simp only [Act.put,Yd2,Yd4,Yd3]
  refine wpAnyH_ready (rs:=[13]) (by kernel_rfl) (by simp) ?_
  refine AllReadyH.cons rfl (fun K hK => ?_) AllReadyH.nil
  (refine Jx (by rfl) _ _ _ (by rfl) Zjp (by rfl) (HRW.out _ _) (B:=w.heap.size + 1) (c:=1) (cs:=#[.int .i64 r.d,.int .i64 r.n,.int .i64 r.k,.int .i64 r.w]) (tb:=93) (fr:=(0,0)) (by rfl) (HN.out _ _) (by rfl) (by simp [Value.oneCell']) hn (w.heap.size + 2) (by simp) ?_; intro g cap w4 hR4 hgrow hat hsz; have q0 := Ydy (HQ.out _ _ _ hgrow); have q1 := Za (j:=8) q0.out rfl; have q5 := Za (j:=2) q0.out rfl; have q5' := fun u => Zi (p:=⟨p,8,none⟩) (u:=u) q5 (Zp9 (by decide)); have q2 := Zc q0.out 8; have q3 := (HT.out _ _ _ hgrow 0).trans c0; have q6 := HX.out _ _ _ hgrow; have q7 := Za (j:=0) q6 rfl; have q8 := Za (j:=1) q6 rfl; have q9 := Za (j:=2) q6 rfl; have q10 := Za (j:=3) q6 rfl; clear q6; have HR4 := Ydy hR4; have HG4 := Ydy (HO.out _ _ _ hgrow); have hS4 := hgrow.size; have hS5 : w.heap.size ≠ p := hxne2; clear hR4 hgrow)
  refine hK.out _ _ (by (try dsimp only); go_keep) (fun hS2 => ?_)
  clear hK K hS
  have hS := hS2
  clear hS2
  dsimp only [Yd1,Ydz,Yd0]
  try simp only [Act.put,Yd2,Yd4,Yd3]
  refine wpAnyH_take (i:=14) (v:=?cv14) rfl (by kernel_rfl) (by kernel_rfl) (by kernel_rfl) (fun _ _ _ h => h) (Yec ⟨by rfl,?ch14⟩) hS ?cr14
  case ch14 => (intro w hSw; dsimp only [Yd1,Ydz,Yd0] at hSw ⊢; go_simp; try with_reducible rfl)
  dsimp only [Yd1,Ydz,Yd0]
  simp only [Act.put,Yd2,Yd4,Yd3]
  refine wpAnyH_take (i:=15) (v:=?cv15) rfl (by kernel_rfl) (by kernel_rfl) (by kernel_rfl) (fun _ _ _ h => h) (Yec ⟨by rfl,?ch15⟩) hS ?cr15
  case ch15 => (intro w hSw; dsimp only [Yd1,Ydz,Yd0] at hSw ⊢; go_simp; try with_reducible rfl)
  dsimp only [Yd1,Ydz,Yd0]
  simp only [Act.put,Yd2,Yd4,Yd3]
  refine wpAnyH_ready (rs:=[16]) (by kernel_rfl) (by simp) ?_
  refine AllReadyH.cons rfl (fun K hK => ?_) AllReadyH.nil
  dsimp only [Yd1,Ydz,Yd0]
  go_simp
  refine hK.out _ _ (by (try dsimp only); go_keep) (fun hS2 => ?_)
  clear hK K hS
  have hS := hS2
  clear hS2
  try simp only [Act.put,Yd2,Yd4,Yd3]
  refine wpAnyH_done (by kernel_rfl) ?_ _
  have HW : Hid (Zw4 own 6 p (n + 1) 93 4 (fun v' => .cells #[a0,a1,Pt px,a3,a4,a5,a6,a7,v'] 63) (xs ++ evF r) w (w4.setCell ⟨p,8,none⟩ (.slice (some ⟨g,0,none⟩) (n + 1) cap))) := Ydy (by
   refine ⟨ext own (w.heap.size + 2) 6,.slice (some ⟨g,0,none⟩) (n + 1) cap,fun b hb => Zz (by omega),HR4.out.kept (S:=fun b => b = p) (fun _ _ => rfl) ((Zb.refl (fun b => b = p) w4).setCell (p:=⟨p,8,none⟩) (.inl rfl) _) (fun b _ hb e => ?_),Zj q0.out 8 _,HG4.out.setCell (p:=⟨p,8,none⟩) (.inl (.inl rfl)) _⟩
   have e' : b = p := e
   subst e'
   rw [Zz (by omega)] at hb
   exact hx hb)
  have z0 := Zi (p:=⟨p,8,none⟩) (u:=.slice (some ⟨g,0,none⟩) (n + 1) cap) q3 (Y2 hpt')
  have z2 := Zi (p:=⟨p,8,none⟩) (u:=.slice (some ⟨g,0,none⟩) (n + 1) cap) q5 (Zp9 (by decide))
  have z7 := Zi (p:=⟨p,8,none⟩) (u:=.slice (some ⟨g,0,none⟩) (n + 1) cap) q7 (Y2 hxne)
  have z8 := Zi (p:=⟨p,8,none⟩) (u:=.slice (some ⟨g,0,none⟩) (n + 1) cap) q8 (Y2 hxne)
  have z9 := Zi (p:=⟨p,8,none⟩) (u:=.slice (some ⟨g,0,none⟩) (n + 1) cap) q9 (Y2 hxne)
  have z10 := Zi (p:=⟨p,8,none⟩) (u:=.slice (some ⟨g,0,none⟩) (n + 1) cap) q10 (Y2 hxne)
  clear HRW HN HQ HT HX HO q0 q1 q2 q3 q5 q5' q7 q8 q9 q10 HR4 HG4 c0 c2 c8 f8 hS HV HR HB hS4
  revert z0 z2 z7 z8 z9 z10 HW
  generalize w4.setCell ⟨p,8,none⟩ (.slice (some ⟨g,0,none⟩) (n + 1) cap) = w5
  intro HW z0 z2 z7 z8 z9 z10
  have HC5 := Ydy (HC.out w5.drew (by
   obtain ⟨o',v',k1,k2,k3,k4⟩ := HW.out
   have hs : Sm w5 w5.drew := ⟨rfl,rfl,rfl,rfl⟩
   exact ⟨o',v',k1,k2.sm hs,hs.block k3,k4.trans hs.only⟩))
  clear HC HW
  go_wp2
  go_region_with (first | (go_at_call 34; refine (HC5.out).mono ?_; rintro e w6 ⟨u,k,rfl,hq⟩))
  all_goals (try go_wp2)
  all_goals
   go_ret
   exact ⟨u,rfl,hq⟩
end
end Go.Proofs.YtdkhbegheognnaaGreatDoor.W

/- Part of the proof of TopEvicts, joined by a program of the session: Pos Str St2 Poc Pom. -/
import Derived.Test.YtdkhbegheognnaaGreatDoorJ06
import Derived.Test.YtdkhbegheognnaaGreatDoorJ02
import Derived.Test.YtdkhbegheognnaaGreatDoorJ07
import Derived.Deep.RegionLaw
import Derived.Deep.RegionWith
import Derived.Deep.DeepCutAuto
import Derived.Deep.CutBlock
namespace Go.Proofs.YtdkhbegheognnaaGreatDoor.W
open Go.RowKit Go.Maps
open _root_.Go.Proofs.Tryz renaming prog → Ydz, ntmps61 → Yd7, func61 → Yd9
open Zb renaming refl → Yd0, setCell → Yd4, alloc → Yeb, drewN → Yec, drew → Yeg
open _root_.Nat renaming le_refl → Yd1, lt_of_lt_of_le → Yd3, ne_of_gt → Yd6, lt_or_ge → Yei, pow_le_pow_right → Yel
open _root_.List renaming length_set → Yd2, range → Yd8, getElem?_eq_getElem → Yea, getElem?_eq_none → Yee, length_replicate → Yef, length_append → Yeh, getElem?_set_self → Yej, getElem?_set_ne → Yek, drop_succ_cons → Yem, take_succ_cons → Yen, mem_cons_self → Yeo
open Sm renaming drewN → Yd5
open Ext renaming refl → Yed
set_option maxHeartbeats 4000000
set_option maxRecDepth 100000
variable {own xs cs own1 : Nat → Nat}
variable {w w' wr w1 W : World}
variable {x k g cb : Nat}
variable {id seed : Int}
variable {l : Yb}
variable {p : Pol}
variable {v : Value}
variable {rs : List Y8}
variable {r : Y8}
section
attribute [local go_sem] World.setCell_drew Zg Zf
theorem X8.out_count {r : Rw} (h : X8 own w x r) {v : Int} (hof : r.of id = some (k,v)) : (r.out id).count + 1 = r.count := by
 obtain ⟨d,bs,hd,rfl⟩ := h.ex
 obtain ⟨hk,t,A,B,hbs,rfl,rfl⟩ := Zeg hof
 rw [← Zdp hd hk hbs,← Za1,← Za1]
 have := Zc0 bs hk (A ++ B)
 rw [hbs] at this
 simp only [Yeh,List.length_cons] at this
 omega
theorem Zyf (h : Zv own w x l p) (h0 : 0 ≤ p.cap) (ht : p.cap < p.rw.total) : ∃ k v,p.rw.of p.next = some (k,v) := by
 have hf : ∀ k,k < 3 → ∀ t rest,p.rw.get k = t :: rest → p.rw.of (Yi (p.rw.get k)) = some (k,t.2) := fun k hk t rest e => by
  have := h.rw.of_get hk (t:=t) (by rw [e]; exact Yeo)
  rw [e]; exact this
 have hbk : ∀ t rest,p.rw.r1 = t :: rest → ∃ v,p.rw.of (Jm p.rw.r1) = some (1,v) := fun t rest e => by
  unfold Jm
  cases hl : p.rw.r1.getLast? with
  | none => rw [e] at hl; simp at hl
  | some s => exact ⟨s.2,h.rw.of_get (k:=1) (by omega) (t:=s) (List.mem_of_getLast? hl)⟩
 have hz : ∀ k,k < 3 → Yi (p.rw.get k) = 0 → p.rw.get k = [] := fun k hk e => by
  cases hr : p.rw.get k with
  | nil => rfl
  | cons t rest =>
   have := (h.rw.fine hk (t:=t) (by rw [hr]; exact Yeo)).1
   rw [hr] at e
   simp only [Yi] at e
   omega
 have hc : ∀ k,k < 3 → p.rw.get k ≠ [] → ∃ v,p.rw.of (Yi (p.rw.get k)) = some (k,v) := fun k hk e => by
  cases hr : p.rw.get k with
  | nil => exact absurd hr e
  | cons t rest => exact ⟨t.2,by rw [← hr]; exact hf k hk t rest hr⟩
 unfold Pol.next
 by_cases h1 : Yi p.rw.r1 = 0
 ·rw [if_pos h1]
  have e1 : p.rw.r1 = [] := hz 1 (by omega) h1
  by_cases h2 : 0 < p.rw.r2.length
  ·rw [if_pos h2]
   obtain ⟨v,hv⟩ := hc 2 (by omega) (by intro e; have : p.rw.r2 = [] := e; rw [this] at h2; simp at h2)
   exact ⟨2,v,hv⟩
  ·rw [if_neg h2]
   have e2 : p.rw.r2 = [] := List.length_eq_zero_iff.1 (by omega)
   have e0 : p.rw.get 0 ≠ [] := fun e => by
    have e0 : p.rw.r0 = [] := e
    unfold Rw.total at ht
    rw [e0,e1,e2] at ht
    simp only [Xq] at ht
    omega
   obtain ⟨v,hv⟩ := hc 0 (by omega) e0
   exact ⟨0,v,hv⟩
 ·rw [if_neg h1]
  have n1 : p.rw.get 1 ≠ [] := fun e => h1 (by have e1 : p.rw.r1 = [] := e; rw [e1]; rfl)
  obtain ⟨v,hv⟩ := hc 1 (by omega) n1
  have hb : ∃ v,p.rw.of (Jm p.rw.r1) = some (1,v) := by
   cases hr : p.rw.r1 with
   | nil => exact absurd hr n1
   | cons t rest => rw [← hr]; exact hbk t rest hr
  obtain ⟨u,hu⟩ := hb
  by_cases h2 : Yi p.rw.r1 = Jm p.rw.r1
  ·rw [if_pos h2]; exact ⟨1,v,hv⟩
  ·rw [if_neg h2]
   split
   ·exact ⟨1,v,hv⟩
   ·exact ⟨1,u,hu⟩
theorem Zce {r : Rw} (h : X8 own w x r) {v : Int} (hof : r.of id = some (k,v)) : 1 ≤ id ∧ id ≤ 65536 := by
 obtain ⟨hk,hm⟩ := Ze0 hof
 exact (h.fine hk hm).1
theorem Zhb {q : Pol} (ht : q.cap < q.rw.total) : q.settleN (g + 1) = (((q.drop q.next).settleN g).1,q.next :: ((q.drop q.next).settleN g).2) := by
 show (if q.cap < q.rw.total then _ else _) = _
 rw [if_pos ht]
 rfl
theorem Zen {q : Pol} (ht : ¬ q.cap < q.rw.total) : q.settleN g = (q,[]) := by
 cases g with
 | zero => rfl
 | succ g =>
  show (if q.cap < q.rw.total then _ else _) = _
  rw [if_neg ht]
def Y1 (l : List Int) : List Value := l.map (Value.int .i64)
theorem Zrk (most : Int) (l : List Nw) : (Xu most l).1.length + (Xu most l).2.length = l.length := by
 induction l with
 | nil => rfl
 | cons t r ih =>
  rw [Xu]
  split
  ·simp only [List.length_cons]; omega
  ·simp
theorem Zbi (r : Rw) (hk : k < 3) (hk1 : k ≠ 1) (most : Int) : (r.pass k most).count = r.count := by
 have e : ∀ q : Rw,q.count = (q.get 0).length + (q.get 1).length + (q.get 2).length := fun q => rfl
 have hl := Zrk most (r.get k)
 rw [e,e,Jc _ hk _ (by omega),Jc _ hk _ (by omega),Jc _ hk _ (by omega)]
 have hkk : k = 0 ∨ k = 2 := by omega
 rcases hkk with rfl | rfl
 ·simp; omega
 ·simp; omega
def Yb7 (own : Nat → Nat) (w : World) (x : Nat) (l : Yb) (p0 : Pol) (g : Nat) (v : Value) (wr : World) : Prop :=
 ∃ v0 own' q Qh,v0 = v ∧ (Ext w own own' ∧ Zv own' wr x l q ∧ Zb (Kb own) w wr ∧ Yo q.keys) ∧ (q.rw.count = g ∧ Qh.length + g ≤ 400 ∧ q.cap = p0.cap) ∧ Row own' 8 wr 3 1 v Qh.length (Y1 Qh) ∧ (∀ b,v.ownBlock = some b → w.heap.size ≤ b) ∧ p0.settleN p0.rw.count = ((q.settleN g).1,Qh ++ (q.settleN g).2)
def Zox (own : Nat → Nat) (w : World) (x : Nat) (l : Yb) (r : Pol × List Int) (e : Ending) (w' : World) : Prop :=
 ∃ v own',e = .returned v ∧ Ext w own own' ∧ Zv own' w' x l r.1 ∧ Zb (Kb own) w w' ∧ Yo r.1.keys ∧ Row own' 8 w' 3 1 v r.2.length (Y1 r.2) ∧ (∀ b,v.ownBlock = some b → w.heap.size ≤ b)
theorem Zhc (h : Zv own w x l p) (hk : Yo p.keys) (hc : p.rw.count ≤ 400) (h0 : 0 ≤ p.cap) (hw0 : 0 ≤ p.win) :
  Calls Ydz 65 #[Pt x] w (Zox own w x l p.settle) := by
 have c6 : w.cell? ⟨x,6,none⟩ = some (.int .i64 p.win) := Za h.block rfl
 have P := Ydy (Zg2 h hc (k:=0) (by omega) (by omega) hw0)
 have HS : Hid (p.settle = ({ p with rw := p.rw.pass 0 p.win } : Pol).settleN ({ p with rw := p.rw.pass 0 p.win } : Pol).rw.count) := Ydy rfl
 have hpc : (p.rw.pass 0 p.win).count = p.rw.count := Zbi _ (by omega) (by omega) _
 have HC := Ydy hc
 have HK := Ydy hk
 have HPC := Ydy hpc
 generalize p.settle = res at *
 clear h hk hc hpc
 go_enter Tryz.func65,Tryz.ntmps65
 go_wp2_with fail
 refine (P.out).mono ?_
 rintro e w1 ⟨rfl,own1,a1,a2,a3⟩
 generalize hp0 : ({ p with rw := p.rw.pass 0 p.win } : Pol) = p0 at *
 have H0 : Hid (Yb7 own w x l p0 p0.rw.count (.slice none 0 0) w1) := Ydy ⟨_,own1,p0,[],rfl,⟨a1,a2,a3,by rw [← hp0]; exact HK.out⟩,⟨rfl,by rw [← hp0]; simp only [List.length_nil]; have := HPC.out; have := HC.out; omega,rfl⟩,Row.nil _ _ _ _ _,(fun b hb => by simp [Value.ownBlock] at hb),by simp⟩
 have hcap : 0 ≤ p0.cap := by rw [← hp0]; exact h0
 have HS2 := Ydy (show res = p0.settleN p0.rw.count by rw [HS.out,← hp0])
 clear a1 a2 a3 hp0 HS
 go_wp2
 go_loopg [3] p0.rw.count (fun g v wr => Yb7 own w x l p0 g v wr)
 case atStart => exact H0.out
 case round =>
  obtain ⟨v0,own',q,Qh,rfl,⟨q1,q2,q3,q4⟩,⟨q5,q6,q7⟩,q8,q9,q10⟩ := hrel
  have c0 : wr.cell? ⟨x,0,none⟩ = some (.int .i64 q.cap) := Za q2.block rfl
  have W : Hid (∀ W,Sm wr W → Calls Ydz 112 #[Pt x] W fun e w' => e = .returned (.int .i64 q.rw.total) ∧ w' = W) := Ydy (fun W hs => Zj4 (Zoq (q2.sm hs) (by omega)))
  by_cases ht : q.cap < q.rw.total
  ·obtain ⟨k,vv,hof⟩ := Zyf q2 (by omega) ht
   have hrg := Zce q2.rw hof
   have hoc := q2.rw.out_count hof
   have N := Ydy (fun W (hs : Sm wr W) => Zva (q2.sm hs))
   have D := Ydy (fun W (hs : Zb No wr W) => Zkv (q2.kept (Yed _ _) hs (fun _ _ _ _ h => h)) q4 (by omega) hof ⟨by omega,by omega⟩)
   have hsg := Zhb (g:=(q.rw.out q.next).count) ht
   have HQ := Ydy (⟨q1,q2,q3,q4⟩ : Ext w own own' ∧ Zv own' wr x l q ∧ Zb (Kb own) w wr ∧ Yo q.keys)
   have HV := Ydy q9
   have HR := Ydy q8
   have hg2 : q.rw.count = (q.rw.out q.next).count + 1 := by omega
   rw [← q5,hg2,hsg] at q10
   have H10 := Ydy q10
   have hout : Qh.length ≤ 400 := by omega
   have HQ6 := Ydy (show Qh.length + 1 + (q.rw.out q.next).count ≤ 400 by omega)
   have H5 := Ydy (show (q.rw.out q.next).count + 1 = gk by omega)
   have H7 := Ydy q7
   clear q1 q2 q3 q4 q5 q6 q7 q8 q9 q10 hof hrg hoc hsg hg2
   generalize hnx : q.next = nx at *
   have HNX := Ydy hnx
   clear hnx
   generalize q.rw.total = tt at *
   generalize hqc : q.cap = qc at *
   have HQC := Ydy hqc
   clear hqc
   go_wp2
   go_quiet ((go_at_call 112; exact Calls.quiet_of_same (W.out _ (Yd5 _ _))))
   go_wp2_with fail
   refine (N.out _ (Yd5 _ _)).mono ?_
   rintro e w2 ⟨rfl,o2⟩
   have ho2 := Ydy (((Yd0 No wr).drewN _).trans o2)
   clear o2
   go_wp2_with fail
   refine (D.out _ ho2.out).mono ?_
   rintro e w3 ⟨rfl,own3,e3,p3,o3⟩
   have hoW : Zb (Kb own') wr w3 := ho2.out.no.trans o3
   have hER : Ext wr own' own3 := fun b hb => e3 b (Yd3 hb ho2.out.size)
   have ROW := Ydy (fun o => (HR.out.kept hER hoW (fun b _ hb e => by have := e.1; omega)).kept (Yed _ _) ((Yd0 (fun _ => False) w3).alloc o) (fun _ _ _ h => h))
   have HER := Ydy hER
   have HOW := Ydy hoW
   have P3 := Ydy p3
   clear e3 p3 o3 hoW hER
   go_wp2_with (refine Xx (by rfl) _ _ _ (by rfl) Zd1 (by rfl) (ROW.out _) (B:=w3.heap.size) (c:=1) (cs:=#[.int .i64 nx]) (tb:=3) (fr:=(0,0)) (by rfl) (Zh _ _) (by rfl) (by simp [Value.oneCell']) (by omega) ?_; intro g cap w4 r4 hg4 hor hsz; have R4 := Ydy r4; have G4 := Ydy hg4; have OR := Ydy hor; clear r4 hg4 hor hsz)
   go_roundg (q.rw.out nx).count
   case rel =>
    obtain ⟨q1,q2,q3,q4⟩ := HQ.out
    have hO4 : Zb (fun b => own3 b = 8 ∧ w.heap.size ≤ b) w3 w4 := ((Yd0 _ w3).alloc _).trans ⟨G4.out.os,G4.out.tape,G4.out.output,G4.out.size,fun b hb hn => G4.out.block b hb (fun e => hn ⟨(ROW.out (.cells #[.int .i64 nx] 3)).2 b e.symm,HV.out b e.symm⟩)⟩
    have hz3 : wr.heap.size ≤ w3.heap.size := HOW.out.size
    have hE3 : Ext w own own3 := q1.trans q3.size HER.out
    have hE4 : Ext w3 own3 (ext own3 (w3.alloc (.cells #[.int .i64 nx] 3)).heap.size 8) := fun b hb => Zz (by simp; omega)
    have hO3 : Zb (Kb own) w w3 := q3.then HOW.out (fun i hi hT => by have h : 20 ≤ own' i ∧ own' i < 40 := hT; rw [q1 i hi] at h; exact h)
    refine ⟨_,ext own3 (w3.alloc (.cells #[.int .i64 nx] 3)).heap.size 8,q.drop nx,Qh ++ [nx],rfl,⟨hE3.trans hO3.size hE4,P3.out.kept hE4 hO4 (fun b _ h1 h2 e => by have := e.1; omega),hO3.then hO4 (fun i hi e => by have := e.2; omega),q4.del nx⟩,⟨rfl,?_,HQC.out.trans H7.out⟩,?_,?_,?_⟩
    ·have := HQ6.out
     rw [Yeh]
     exact this
    ·have r := R4.out
     rw [Yeh]
     have e : Y1 (Qh ++ [nx]) = Y1 Qh ++ [.int .i64 nx] := by simp [Y1]
     rw [e]
     exact r
    ·intro b hb
     simp only [Value.ownBlock,Option.some.injEq] at hb
     subst hb
     rcases OR.out with a | a
     ·exact HV.out _ a
     ·rw [a]
      have h1 := hO3.size
      simp
      omega
    ·have := H10.out
     rw [this,List.append_assoc]
     rfl
   case measure => have := H5.out; omega
  ·have HR := Ydy (show res = (q,Qh) by rw [HS2.out,q10,Zen ht,List.append_nil])
   have HSQ : Hid (∀ W,Sm wr W → Zox own w x l res (.returned v0) W) := Ydy (fun W hs => by
    rw [HR.out]
    exact ⟨v0,own',rfl,q1,q2.sm hs,q3.trans hs.only,q4,q8.sm hs,q9⟩)
   clear q1 q2 q3 q4 q5 q6 q7 q8 q9 q10
   generalize q.rw.total = tt at *
   generalize q.cap = qc at *
   go_wp2
   go_quiet ((go_at_call 112; exact Calls.quiet_of_same (W.out _ (Yd5 _ _))))
   go_wp2
   go_ret
   exact HSQ.out _ (Yd5 _ _)
def kp (x : Nat) : Value := .iface 128 (Pt x)
theorem Zvc (a : Addr) (w : World) : (nilAhead 463 128 (.pointer (some a)) "Offer").run Ydz w = .ok (some false) w := by kernel_rfl
theorem Zyg (a : Addr) (w : World) : (nilAhead 463 128 (.pointer (some a)) "Take").run Ydz w = .ok (some false) w := by kernel_rfl
theorem Ya0 (a : Addr) (w : World) : (nilAhead 463 128 (.pointer (some a)) "Len").run Ydz w = .ok (some false) w := by kernel_rfl
theorem Yaz (a : Addr) (w : World) : (Go.method 463 128 (.pointer (some a)) "Offer").run Ydz w = .ok (250, .pointer (some a)) w := by kernel_rfl
theorem Ycp (a : Addr) (w : World) : (Go.method 463 128 (.pointer (some a)) "Take").run Ydz w = .ok (251, .pointer (some a)) w := by kernel_rfl
theorem Ydk (a : Addr) (w : World) : (Go.method 463 128 (.pointer (some a)) "Len").run Ydz w = .ok (249, .pointer (some a)) w := by kernel_rfl
structure Ju (own : Nat → Nat) (w : World) (x : Nat) (v : Value) (xs cs : Nat → Nat) (seed : Int) (rs : List Y8) : Prop where
 ox : own x = 50
 block : w.heap[x]? = some (.cells #[v,.int .i64 seed] 127 (0,0))
 row : Row own 51 w 245 1 v rs.length ((Yd8 rs.length).map fun i => kp (xs i))
 ring : ∀ i r,rs[i]? = some r → Xj own w (2000 + 2 * i) (xs i) (cs i) r
 some_ : 1 ≤ rs.length
 few : rs.length ≤ 64
theorem Zy5 (h : Ju own w x v xs cs seed rs) (th : Int) :
  Calls Ydz 140 #[Pt x,.int .i64 th] w fun e w' => e = .returned (.int .i64 (Ye (Yf seed th) 0 rs.length : Int)) ∧ ∃ m,w' = w.drewN m := by
 have c0 : w.cell? ⟨x,0,none⟩ = some v := Za h.block rfl
 have c1 : w.cell? ⟨x,1,none⟩ = some (.int .i64 seed) := Za h.block rfl
 have hs := h.some_
 have hf := h.few
 have MX : Hid (∀ W,Calls Ydz 135 #[.int .i64 seed,.int .i64 th] W fun e w' => e = .returned (.int .u64 (Yf seed th)) ∧ w' = W) := Ydy (fun W => (Zee seed th W).mono fun _ _ h => ⟨h.1,h.2.symm⟩)
 have hu := Zed seed th
 have IX : Hid (∀ W,Calls Ydz 134 #[.int .u64 (Yf seed th),.int .i64 0,.int .i64 (rs.length : Int)] W fun e w' => e = .returned (.int .i64 (Ye (Yf seed th) 0 rs.length : Int)) ∧ w' = W) := Ydy (fun W => (Znm (Yf seed th) hu rs.length (by omega) (by omega) W).mono fun _ _ h => ⟨h.1,h.2.symm⟩)
 generalize Ye (Yf seed th) 0 rs.length = res at *
 generalize Yf seed th = mx at *
 rcases h.row.form with ⟨_,hn,_⟩ | ⟨g,cap,rfl,_,_,_,_,_,_⟩
 ·omega
 clear h
 generalize rs.length = n at *
 go_enter Tryz.func140,Tryz.ntmps140
 go_wp2
 go_quiet ((first | (go_at_call 135; exact Calls.quiet_of_same (MX.out _)) | (go_at_call 134; exact Calls.quiet_of_same (IX.out _))))
 go_wp2
 go_ret
 exact ⟨rfl,_,rfl⟩
def Zmu (own : Nat → Nat) : Nat → Prop := fun b => 2000 ≤ own b ∧ own b ≤ 2127
theorem Zy4 (h : Ju own w x v xs cs seed rs) (th n : Int) (p : Nat) (hp : p = Ye (Yf seed th) 0 rs.length) (r : Y8) (hr : rs[p]? = some r) :
  Calls Ydz 92 #[Pt x,.int .i64 th,.int .i64 n] w fun e w' => e = .returned (.bool (Xf r n).2) ∧ Ju own w' x v xs cs seed (rs.set p (Xf r n).1) ∧ Zb (Zmu own) w w' := by
 have hp64 : p < rs.length := by
  rcases Yei p rs.length with hl | hl
  ·exact hl
  ·rw [Yee hl] at hr; cases hr
 have c0 : w.cell? ⟨x,0,none⟩ = some v := Za h.block rfl
 have PL : Hid (∀ W,Sm w W → Calls Ydz 140 #[Pt x,.int .i64 th] W fun e w' => e = .returned (.int .i64 (p : Int)) ∧ ∃ m,w' = W.drewN m) := Ydy (fun W hs => by
  rw [hp]
  exact Zy5 (rs:=rs) ⟨h.ox,hs.block h.block,h.row.sm hs,fun i r hi => (h.ring i r hi).kept (S:=No) (own':=own) (fun _ _ => rfl) (hs.only) (fun _ _ _ h => h),h.some_,h.few⟩ th)
 have HF : Hid (∀ W w',Sm w W → Xj own w' (2000 + 2 * p) (xs p) (cs p) (Xf r n).1 ∧ Zb (RgL own (2000 + 2 * p)) W w' → Ju own w' x v xs cs seed (rs.set p (Xf r n).1) ∧ Zb (Zmu own) w w') := Ydy (fun W w' hs ⟨h1,h2⟩ => by
  have ho : Zb (RgL own (2000 + 2 * p)) w w' := (hs.only (S:=RgL own (2000 + 2 * p))).trans h2
  have hf := h.few
  refine ⟨⟨h.ox,ho.kept h.block (fun e => by have := h.ox; rcases e with e | e <;> omega),?_,?_,by rw [Yd2]; exact h.some_,by rw [Yd2]; exact h.few⟩,ho.mono fun b _ e => by rcases e with e | e <;> exact ⟨by omega,by omega⟩⟩
  ·rw [Yd2]
   exact h.row.kept (fun _ _ => rfl) ho (fun b _ e1 e2 => by rcases e2 with e2 | e2 <;> omega)
  ·intro i r2 hi
   by_cases hip : i = p
   ·subst hip
    rw [Yej hp64] at hi
    cases hi
    exact h1
   ·rw [Yek (fun e => hip e.symm)] at hi
    exact (h.ring i r2 hi).kept (fun _ _ => rfl) ho (fun b _ e1 e2 => by rcases e1 with e1 | e1 <;> rcases e2 with e2 | e2 <;> omega))
 have RO : Hid (∀ W,Sm w W → Calls Ydz 250 #[Pt (xs p),.int .i64 n] W (Zms own W (2000 + 2 * p) (xs p) (cs p) (Xf r n))) := Ydy (fun W hs => Ybb ((h.ring p r hr).kept (S:=No) (own':=own) (fun _ _ => rfl) hs.only (fun _ _ _ h => h)) n)
 rcases h.row.form with ⟨_,hn,_⟩ | ⟨g,cap,rfl,hg,_,hcap,_,_,hcell⟩
 ·omega
 have cg : w.cell? ⟨g,p,none⟩ = some (kp (xs p)) := hcell p _ (by simp [hp64])
 clear h hp hr hg hcell
 generalize Xf r n = res at *
 generalize rs.length = len at *
 unfold kp at cg
 have nO := Zvc
 have mO := Yaz
 go_enter Tryz.func92,Tryz.ntmps92
 go_wp2
 go_region_with ((first | (go_at_call 140; refine (PL.out _ (by first | exact Sm.refl _ | exact Yd5 _ _)).mono ?_; rintro e w' ⟨rfl,nq,rfl⟩) | (go_at_call 250; refine (RO.out _ (by first | exact Sm.refl _ | exact Yd5 _ _)).mono ?_; rintro e w' ⟨rfl,hq⟩)))
 all_goals
  go_wp2
  go_ret
  exact ⟨rfl,HF.out _ _ (Yd5 _ _) ⟨hq.1,hq.2⟩⟩
theorem Zsa (rs : List Y8) (k : Nat) (r : Y8) (v : Int) (q : List Int) (h0 : ∀ (j : Nat) (r' : Y8),j < k → rs[j]? = some r' → r'.q = []) (h1 : rs[k]? = some r) (h2 : r.q = v :: q) : Y3 rs = (rs.set k { r with q := q },some v) := by
 induction rs generalizing k with
 | nil => simp at h1
 | cons a rs ih =>
  match k with
  | 0 =>
   simp only [List.getElem?_cons_zero,Option.some.injEq] at h1
   subst h1
   simp only [Y3,h2,List.set_cons_zero]
  | k + 1 =>
   have ha : a.q = [] := h0 0 a (by omega) rfl
   have := ih k (fun j r' hj hr => h0 (j + 1) r' (by omega) hr) h1
   simp only [Y3,ha,this,List.set_cons_succ]
theorem Zol (rs : List Y8) (h0 : ∀ (j : Nat) (r' : Y8),rs[j]? = some r' → r'.q = []) : Y3 rs = (rs,none) := by
 induction rs with
 | nil => rfl
 | cons a rs ih =>
  have ha : a.q = [] := h0 0 a rfl
  have := ih (fun j r' hr => h0 (j + 1) r' hr)
  simp only [Y3,ha,this]
theorem Ju.put (h : Ju own w x v xs cs seed rs) {p : Nat} {r' : Y8} (hr : rs[p]? = some r) (h1 : Xj own w' (2000 + 2 * p) (xs p) (cs p) r') (ho : Zb (RgL own (2000 + 2 * p)) w w') :
  Ju own w' x v xs cs seed (rs.set p r') ∧ Zb (Zmu own) w w' := by
 have hp64 : p < rs.length := by
  rcases Yei p rs.length with hl | hl
  ·exact hl
  ·rw [Yee hl] at hr; cases hr
 have hf := h.few
 refine ⟨⟨h.ox,ho.kept h.block (fun e => by have := h.ox; rcases e with e | e <;> omega),?_,?_,by rw [Yd2]; exact h.some_,by rw [Yd2]; exact h.few⟩,ho.mono fun b _ e => by rcases e with e | e <;> exact ⟨by omega,by omega⟩⟩
 ·rw [Yd2]
  exact h.row.kept (fun _ _ => rfl) ho (fun b _ e1 e2 => by rcases e2 with e2 | e2 <;> omega)
 ·intro i r2 hi
  by_cases hip : i = p
  ·subst hip
   rw [Yej hp64] at hi
   cases hi
   exact h1
  ·rw [Yek (fun e => hip e.symm)] at hi
   exact (h.ring i r2 hi).kept (fun _ _ => rfl) ho (fun b _ e1 e2 => by rcases e1 with e1 | e1 <;> rcases e2 with e2 | e2 <;> omega)
def Zoz (own : Nat → Nat) (w : World) (x : Nat) (v : Value) (xs cs : Nat → Nat) (seed : Int) (r : List Y8 × Option Int) (e : Ending) (w' : World) : Prop :=
 e = .returned (.tuple #[.int .i64 (r.2.getD 0),.bool r.2.isSome]) ∧ Ju own w' x v xs cs seed r.1 ∧ Zb (Zmu own) w w'
theorem Ybk (h : Ju own w x v xs cs seed rs) :
  Calls Ydz 143 #[Pt x] w (Zoz own w x v xs cs seed (Y3 rs)) := by
 have c0 : w.cell? ⟨x,0,none⟩ = some v := Za h.block rfl
 have HS := Ydy h
 have hl64 := h.few
 have hl1 := h.some_
 rcases h.row.form with ⟨_,hn,_⟩ | ⟨g,cap,rfl,hg,_,hcap,_,_,hcell⟩
 ·omega
 have HC : Hid (∀ p,p < rs.length → w.cell? ⟨g,p,none⟩ = some (.iface 128 (Pt (xs p)))) := Ydy (fun p hp => hcell p _ (by simp [hp,kp]))
 have HL : Hid (∀ p,p < rs.length → ∃ r,rs[p]? = some r) := Ydy (fun p hp => ⟨_,Yea hp⟩)
 have HZ : Hid (∀ p,rs.length ≤ p → rs[p]? = none) := Ydy (fun p hp => Yee hp)
 clear h hcell hg
 generalize hlen : rs.length = len at *
 clear hlen
 have nO := Zyg
 have mO := Ycp
 go_enter Tryz.func143,Tryz.ntmps143
 go_wp2
 go_loop [13] (fun i => ∃ k : Nat,k ≤ len ∧ i = .int .i64 (k : Int) ∧ ∀ (j : Nat) (r' : Y8),j < k → rs[j]? = some r' → r'.q = []) (fun i => len - (intOf i).toNat)
 case atStart => exact ⟨0,Nat.zero_le _,rfl,fun j r' hj => absurd hj (Nat.not_lt_zero _)⟩
 case round =>
  obtain ⟨k,hk,rfl,hall⟩ := hrel
  by_cases hlt : k < len
  ·have hkb : decide ((k : Int) < (len : Int)) = true := by simp; omega
   obtain ⟨r,hr⟩ := HL.out k hlt
   have ck := HC.out k hlt
   have hik : (k : Int).toNat = k := by omega
   have RT := Ydy (Ycy (HS.out.ring k r hr))
   match hq : r.q with
   | [] =>
    have hv : Js r = (r,none) := by unfold Js; rw [hq]
    have RT2 : Hid (Calls Ydz 251 #[Pt (xs k)] w fun e w' => e = .returned (.tuple #[.int .i64 0,.bool false]) ∧ w' = w) := Ydy (RT.out.mono (fun e w' h => by rw [hv] at h; exact ⟨h.1,h.2.2.2 rfl⟩))
    have HA : Hid (∀ (j : Nat) (r' : Y8),j < k + 1 → rs[j]? = some r' → r'.q = []) := Ydy (fun j r' hj hr' => by
     rcases Yei j k with hjk | hjk
     ·exact hall j r' hjk hr'
     ·have : j = k := by omega
      subst this
      rw [hr] at hr'
      cases hr'
      exact hq)
    clear hall hv RT hq hr
    go_wp2_with fail
    refine RT2.out.mono ?_
    rintro e w' ⟨rfl,rfl⟩
    go_wp2
    go_round
    case rel => exact ⟨k + 1,by omega,by go_num,HA.out⟩
    case measure => simp [intOf]; omega
   | n :: q =>
    have hv : Js r = ({ r with q := q },some n) := by unfold Js; rw [hq]
    have HT := Ydy (Zsa rs k r n q hall hr hq)
    have HP : Hid (∀ w',Xj own w' (2000 + 2 * k) (xs k) (cs k) { r with q := q } ∧ Zb (RgL own (2000 + 2 * k)) w w' → Zoz own w x (.slice (some ⟨g,0,none⟩) len cap) xs cs seed (Y3 rs) (.returned (.tuple #[.int .i64 n,.bool true])) w') := Ydy (fun w' hh => by
     rw [HT.out]
     exact ⟨rfl,HS.out.put hr hh.1 hh.2⟩)
    have RT2 : Hid (Calls Ydz 251 #[Pt (xs k)] w fun e w' => e = .returned (.tuple #[.int .i64 n,.bool true]) ∧ Xj own w' (2000 + 2 * k) (xs k) (cs k) { r with q := q } ∧ Zb (RgL own (2000 + 2 * k)) w w') := Ydy (RT.out.mono (fun e w' h => by rw [hv] at h; exact ⟨h.1,h.2.1,h.2.2.1⟩))
    clear hall hv RT hq hr HT
    go_wp2_with fail
    refine RT2.out.mono ?_
    rintro e w' ⟨rfl,hh⟩
    have HH := Ydy hh
    clear hh
    go_wp2
    go_ret2
    exact HP.out _ HH.out
  ·have hke : k = len := by omega
   subst hke
   have HT : Hid (Y3 rs = (rs,none)) := Ydy (Zol rs (fun j r' hr => by
    rcases Yei j k with hj | hj
    ·exact hall j r' hj hr
    ·rw [HZ.out j hj] at hr; cases hr))
   clear hall
   go_wp2
   go_ret2
   rw [HT.out]
   exact ⟨rfl,HS.out,Yd0 _ _⟩
theorem Zif (rs : List Y8) (k : Nat) (r : Y8) (h : rs[k]? = some r) : Qj (rs.take (k + 1)) = Qj (rs.take k) + r.q.length := by
 have ht : rs.take (k + 1) = rs.take k ++ [r] := by rw [List.take_add_one,h]; rfl
 rw [ht]
 unfold Qj
 rw [List.map_append,List.sum_append]
 simp
theorem Ybj {lb : Nat} (h : Xj own w lb x cb r) : Calls Ydz 214 #[.iface 128 (Pt x)] w fun e w' => e = .returned (.int .i64 (r.q.length : Int)) ∧ w = w' := by
 have R := Ydy (Ydo h)
 have nO := Ya0
 have mO := Ydk
 clear h
 go_enter Tryz.func214,Tryz.ntmps214
 go_wp2_with fail
 refine (R.out).mono ?_
 rintro e w' ⟨rfl,rfl⟩
 go_wp2
 go_ret
 exact ⟨rfl,rfl⟩
theorem Xj.small {lb : Nat} (h : Xj own w lb x cb r) : r.q.length ≤ 4096 := by
 obtain ⟨a,i,lost,cs,h1,h2,h3,h4,h5,h6,h7,h8⟩ := h.ex
 have : 2 ^ i ≤ 4096 := Nat.le_trans (Yel (by omega) h1) (by decide)
 omega
theorem Ju.small (h : Ju own w x v xs cs seed rs) (k : Nat) (hk : k ≤ rs.length) : Qj (rs.take k) ≤ k * 4096 := by
 induction k with
 | zero => simp [Qj]
 | succ k ih =>
  have hr : rs[k]? = some rs[k] := Yea hk
  rw [Zif rs k _ hr]
  have := ih (by omega)
  have := (h.ring k _ hr).small
  omega
theorem Yc4 (h : Ju own w x v xs cs seed rs) :
  Calls Ydz 213 #[Pt x,.func (.func 214) #[] #[]] w fun e w' => e = .returned (.int .i64 (Qj rs : Int)) ∧ w = w' := by
 have c0 : w.cell? ⟨x,0,none⟩ = some v := Za h.block rfl
 have HS := Ydy h
 have hl64 := h.few
 have hl1 := h.some_
 rcases h.row.form with ⟨_,hn,_⟩ | ⟨g,cap,rfl,hg,_,hcap,_,_,hcell⟩
 ·omega
 have HC : Hid (∀ p,p < rs.length → w.cell? ⟨g,p,none⟩ = some (.iface 128 (Pt (xs p)))) := Ydy (fun p hp => hcell p _ (by simp [hp,kp]))
 have HL : Hid (∀ p,p < rs.length → ∃ r,rs[p]? = some r) := Ydy (fun p hp => ⟨_,Yea hp⟩)
 have HB : Hid (∀ k,k ≤ rs.length → Qj (rs.take k) ≤ k * 4096) := Ydy h.small
 have HT : Hid (rs.take rs.length = rs) := Ydy (List.take_length)
 clear h hcell hg
 generalize hlen : rs.length = len at *
 clear hlen
 go_enter Tryz.func213,Tryz.ntmps213
 go_wp2
 go_loop [5,13] (fun t i => ∃ k : Nat,k ≤ len ∧ i = .int .i64 (k : Int) ∧ t = .int .i64 (Qj (rs.take k) : Int)) (fun _ i => len - (intOf i).toNat)
 case atStart => exact ⟨0,Nat.zero_le _,rfl,rfl⟩
 case round =>
  obtain ⟨k,hk,rfl,rfl⟩ := hrel
  by_cases hlt : k < len
  ·have hkb : decide ((k : Int) < (len : Int)) = true := by simp; omega
   obtain ⟨r,hr⟩ := HL.out k hlt
   have ck := HC.out k hlt
   have RT := Ydy (Ybj (HS.out.ring k r hr))
   have hb := HB.out k hk
   have hb2 := (HS.out.ring k r hr).small
   have HA := Ydy (Zif rs k r hr)
   generalize Qj (rs.take k) = s at *
   generalize r.q.length = q at *
   have IW := IntWalk.i64_in ((s : Int) + (q : Int)) (by omega)
   go_wp2_with fail
   refine RT.out.mono ?_
   rintro e w' ⟨rfl,rfl⟩
   go_wp2
   go_round
   case rel => exact ⟨k + 1,by omega,by go_num,by rw [HA.out]; go_num⟩
   case measure => simp [intOf]; omega
  ·have hke : k = len := by omega
   subst hke
   rw [HT.out]
   go_wp2
   go_ret
   exact ⟨rfl,rfl⟩
theorem Zz0 (h : Ju own w x v xs cs seed rs) :
  Calls Ydz 189 #[Pt x] w fun e w' => e = .returned (.int .i64 (Qj rs : Int)) ∧ w = w' := by
 have R := Ydy (Yc4 h)
 go_enter Tryz.func189,Tryz.ntmps189
 go_wp2_with fail
 refine (R.out).mono ?_
 rintro e w' ⟨rfl,rfl⟩
 go_wp2
 go_ret
 exact ⟨rfl,rfl⟩
theorem elK : ElT 125 245 1 16 := ElT.mk' (z:=.nilIface) Tryz.underlying125 (by kernel_rfl) rfl (by decide) (by decide)
def SnM (own : Nat → Nat) (w : World) (lb : Nat) (r0 : Y8) (own1 : Nat → Nat) (w1 : World) (xr cb : Nat) : Prop := Ext w own own1 ∧ Xj own1 w1 lb xr cb r0 ∧ Zb No w w1
def SnR (own : Nat → Nat) (w : World) (x : Nat) (seed : Int) (r0 : Y8) (k : Nat) (wr : World) : Prop :=
 ∃ own' v,∃ xs cs : Nat → Nat,Ext w own own' ∧ own' x = 50 ∧ wr.heap[x]? = some (.cells #[v,.int .i64 seed] 127 (0,0)) ∧ Row own' 51 wr 245 1 v k ((Yd8 k).map fun i => kp (xs i)) ∧ (∀ i,i < k → Xj own' wr (2000 + 2 * i) (xs i) (cs i) r0) ∧ Zb No w wr ∧ w.heap.size ≤ x ∧ (∀ b,v.ownBlock = some b → w.heap.size ≤ b)
def Zs6 (own : Nat → Nat) (w : World) (seed : Int) (rs : List Y8) (e : Ending) (w' : World) : Prop := ∃ x v xs cs own',e = .returned (Pt x) ∧ Ext w own own' ∧ Ju own' w' x v xs cs seed rs ∧ Zb No w w'
theorem SnR.end' {r0 : Y8} (h : SnR own w x seed r0 k wr) (h1 : 1 ≤ k) (h2 : k ≤ 64) : Zs6 own w seed (List.replicate k r0) (.returned (Pt x)) wr := by
 obtain ⟨own',v,xs,cs,a1,a2,a3,a4,a5,a6,a7,a8⟩ := h
 refine ⟨x,v,xs,cs,own',rfl,a1,⟨a2,a3,by rw [Yef]; exact a4,fun i r hi => ?_,by rw [Yef]; exact h1,by rw [Yef]; exact h2⟩,a6⟩
 rw [List.getElem?_replicate] at hi
 split at hi
 ·rename_i hik
  cases hi
  exact a5 i hik
 ·cases hi
theorem SnR.next {own' : Nat → Nat} {w4 : World} {xr cap : Nat} {r0 : Y8} (a1 : Ext w own own') (a2 : own' x = 50) (hx : x < wr.heap.size) (hv : Row own' 51 wr 245 1 v k ((Yd8 k).map fun i => kp (xs i))) (a5 : ∀ i,i < k → Xj own' wr (2000 + 2 * i) (xs i) (cs i) r0) (a6 : Zb No w wr) (a7 : w.heap.size ≤ x) (a8 : ∀ b,v.ownBlock = some b → w.heap.size ≤ b)
  (b : SnM own' wr (2000 + 2 * k) r0 own1 w1 xr cb) (hs : Sm (w1.alloc (.cells #[.iface 128 (Pt xr)] 245)) W) (hR : Row (ext own1 (w1.heap.size + 1) 51) 51 w4 245 1 (.slice (some ⟨g,0,none⟩) (k + 1) cap) (k + 1) (((Yd8 k).map fun i => kp (xs i)) ++ (#[.iface 128 (Pt xr)] : Array Value).toList)) (hg : W.grownBy w4 v.ownBlock) (hat : v.ownBlock = some g ∨ g = w1.heap.size + 1) (q0 : w4.heap[x]? = some (.cells #[v,.int .i64 seed] 127 (0,0))) :
  SnR own w x seed r0 (k + 1) (w4.setCell ⟨x,0,none⟩ (.slice (some ⟨g,0,none⟩) (k + 1) cap)) := by
 obtain ⟨b1,b2,b3⟩ := b
 have hz := b3.size
 have hz0 := a6.size
 have hx1 : own1 x = 50 := (b1 x hx).trans a2
 have hv1 : ∀ j,v.ownBlock = some j → own1 j = 51 := fun j hj => (b1 j (hv.lt hj)).trans (hv.2 j hj)
 have hE1 : Ext w1 own1 (ext own1 (w1.heap.size + 1) 51) := fun j hj => Zz (by omega)
 have hOW : Zb (fun j => j = x ∨ v.ownBlock = some j) w1 w4 := (((Yd0 _ w1).alloc _).trans hs.only).trans ⟨hg.os,hg.tape,hg.output,hg.size,fun j hj hn => hg.block j hj (fun e => hn (.inr e.symm))⟩
 have hO5 : Zb (fun j => j = x ∨ v.ownBlock = some j) w1 (w4.setCell ⟨x,0,none⟩ (.slice (some ⟨g,0,none⟩) (k + 1) cap)) := hOW.setCell (p:=⟨x,0,none⟩) (.inl (.inl rfl)) _
 have hk5 : ∀ (i : Nat) (j : Nat),own1 j = 2000 + 2 * i ∨ own1 j = 2000 + 2 * i + 1 → ¬ (j = x ∨ v.ownBlock = some j) := fun i j e h => by
  rcases h with h | h
  ·rw [h] at e; omega
  ·have := hv1 j h; omega
 refine ⟨ext own1 (w1.heap.size + 1) 51,_,fun i => if i = k then xr else xs i,fun i => if i = k then cb else cs i,a1.trans hz0 (b1.trans hz hE1),by rw [Zz (by omega)]; exact hx1,Zj q0 0 _,?_,?_,(a6.trans b3).then hO5 (fun i hi e => by
   rcases e with e | e
   ·omega
   ·have := a8 i e; omega),a7,?_⟩
 ·have e : (Yd8 (k + 1)).map (fun i => kp (if i = k then xr else xs i)) = ((Yd8 k).map fun i => kp (xs i)) ++ (#[.iface 128 (Pt xr)] : Array Value).toList := by
   rw [List.range_succ,List.map_append]
   congr 1
   ·apply List.map_congr_left
    intro i hi
    have := List.mem_range.1 hi
    rw [if_neg (by omega)]
   ·simp [kp]
  rw [e]
  exact hR.kept (S:=fun j => j = x) (fun _ _ => rfl) ((Yd0 (fun j => j = x) w4).setCell (p:=⟨x,0,none⟩) (.inl rfl) _) (fun j _ hj e => by
   rw [e,Zz (by omega)] at hj
   omega)
 ·intro i hi
  by_cases hik : i = k
  ·subst hik
   simp only [if_true]
   exact b2.kept hE1 hO5 (fun j _ e => hk5 i j e)
  ·simp only [if_neg hik]
   exact ((a5 i (by omega)).kept b1 b3 (fun _ _ _ h => h)).kept hE1 hO5 (fun j _ e => hk5 i j e)
 ·intro j hj
  simp only [Value.ownBlock,Option.some.injEq] at hj
  subst hj
  rcases hat with e | e
  ·exact a8 _ e
  ·omega
theorem Zl7 (own : Nat → Nat) (count size seed : Int) (w : World) : Calls Ydz 21 #[.int .i64 count,.int .i64 size,.int .i64 seed] w (Zs6 own w seed (List.replicate (Yt count 1 6).toNat ⟨(Yt size 1 12).toNat,[]⟩)) := by
 obtain ⟨i,hi,he⟩ := Zdz count 6
 have C := fun W => Zap count 1 64 6 (by omega) (by decide) (by omega) (by decide +kernel) (by decide +kernel) W
 rw [show upV count 6 1 = Yt count 1 6 from rfl,he] at C
 rw [he,Int.toNat_natCast]
 have C := Ydy C
 have hp : 1 ≤ 2 ^ i ∧ 2 ^ i ≤ 64 := ⟨Nat.one_le_two_pow,Nat.le_trans (Yel (by omega) hi) (by decide)⟩
 have RN : Hid (∀ own1 lb W,Calls Ydz 51 #[.int .i64 size] W (Zgd own1 W lb ⟨(Yt size 1 12).toNat,[]⟩)) := Ydy (fun own1 lb W => Zv3 own1 lb size W)
 generalize (⟨(Yt size 1 12).toNat,[]⟩ : Y8) = r0 at *
 clear he hi
 generalize 2 ^ i = N at *
 obtain ⟨hp1,hp2⟩ := hp
 go_enter Tryz.func21,Tryz.ntmps21
 go_wp2_with fail
 refine (C.out _).mono ?_
 rintro e w' ⟨rfl,rfl⟩
 go_wp2
 have H0 : Hid (SnR own w w.heap.size seed r0 0 (w.alloc (.cells #[.slice none 0 0,.int .i64 seed] 127))) := Ydy ⟨lab own w.heap.size 50,.slice none 0 0,fun _ => 0,fun _ => 0,(Yed w own).lab (Yd1 _) _,Zn _ _ _,Zh w _,Row.nil _ _ _ _ _,fun i h => absurd h (Nat.not_lt_zero _),(Yd0 _ _).alloc _,Yd1 _,fun b hb => by simp [Value.ownBlock] at hb⟩
 generalize hx : w.heap.size = x at *
 clear hx
 go_loopw [13] (fun i wr => ∃ k : Nat,k ≤ N ∧ i = .int .i64 (k : Int) ∧ SnR own w x seed r0 k wr) (fun i _ => N - (intOf i).toNat)
 case atStart => exact ⟨0,by omega,rfl,H0.out⟩
 case round =>
  obtain ⟨k,hk,rfl,hS⟩ := hrel
  have HS := Ydy hS
  by_cases hlt : k < N
  ·have hkb : decide ((k : Int) < (N : Int)) = true := by simp; omega
   obtain ⟨own',v,xs,cs,a1,a2,a3,a4,a5,a6,a7,a8⟩ := hS
   have c0 : wr.cell? ⟨x,0,none⟩ = some v := Za a3 rfl
   have RK : Hid (∀ W,Sm wr W → Calls Ydz 51 #[.int .i64 size] W fun e w1 => ∃ xr cb own1,e = .returned (Pt xr) ∧ SnM own' wr (2000 + 2 * k) r0 own1 w1 xr cb) := Ydy (fun W hs => (RN.out own' (2000 + 2 * k) W).mono (fun e w1 ⟨xr,cb,own1,h1,h2,h3,h4⟩ => ⟨xr,cb,own1,h1,fun b hb => h2 b (by rw [hs.heap]; exact hb),h3,hs.only.trans h4⟩))
   have HC : Hid (∀ own1 w1 xr cb,SnM own' wr (2000 + 2 * k) r0 own1 w1 xr cb → w1.heap[x]? = some (.cells #[v,.int .i64 seed] 127 (0,0))) := Ydy (fun own1 w1 xr cb h => h.2.2.kept a3 (fun h => h))
   have HROW : Hid (∀ own1 w1 xr cb W,SnM own' wr (2000 + 2 * k) r0 own1 w1 xr cb → Sm (w1.alloc (.cells #[.iface 128 (Pt xr)] 245)) W → Row own1 51 W 245 1 v k ((Yd8 k).map fun i => kp (xs i))) := Ydy (fun own1 w1 xr cb W h hs => ((a4.kept h.1 h.2.2 (fun _ _ _ h => h)).kept (own':=own1) (fun _ _ => rfl) ((Yd0 No w1).alloc (.cells #[.iface 128 (Pt xr)] 245)) (fun _ _ _ h => h)).sm hs)
   have HN : Hid (∀ (w1 : World) xr W,Sm (w1.alloc (.cells #[.iface 128 (Pt xr)] 245)) W → W.heap[w1.heap.size]? = some (.cells #[.iface 128 (Pt xr)] 245 (0,0)) ∧ W.heap.size = w1.heap.size + 1) := Ydy (fun w1 xr W hs => ⟨hs.block (Zh _ _),by rw [hs.size]; simp⟩)
   have hv51 : ∀ b,v.ownBlock = some b → own' b = 51 := fun b hb => a4.2 b hb
   have HX : Hid (∀ own1 w1 xr cb W w4,SnM own' wr (2000 + 2 * k) r0 own1 w1 xr cb → Sm (w1.alloc (.cells #[.iface 128 (Pt xr)] 245)) W → W.grownBy w4 v.ownBlock → w4.heap[x]? = some (.cells #[v,.int .i64 seed] 127 (0,0))) := Ydy (fun own1 w1 xr cb W w4 h hs hg => (hg.block x (by have := h.2.2.size; have := Ze a3; rw [hs.size]; simp; omega) (fun e => by have h1 := hv51 x e.symm; omega)).trans (hs.block (Zm (h.2.2.kept a3 (fun h => h)))))
   have HNX : Hid (∀ own1 w1 W w4 xr cb g cap,SnM own' wr (2000 + 2 * k) r0 own1 w1 xr cb → Sm (w1.alloc (.cells #[.iface 128 (Pt xr)] 245)) W → Row (ext own1 (w1.heap.size + 1) 51) 51 w4 245 1 (.slice (some ⟨g,0,none⟩) (k + 1) cap) (k + 1) (((Yd8 k).map fun i => kp (xs i)) ++ (#[.iface 128 (Pt xr)] : Array Value).toList) → W.grownBy w4 v.ownBlock → (v.ownBlock = some g ∨ g = w1.heap.size + 1) → w4.heap[x]? = some (.cells #[v,.int .i64 seed] 127 (0,0)) → SnR own w x seed r0 (k + 1) (w4.setCell ⟨x,0,none⟩ (.slice (some ⟨g,0,none⟩) (k + 1) cap))) := Ydy (fun _ _ _ _ _ _ _ _ h1 h2 h3 h4 h5 h6 => SnR.next a1 a2 (Ze a3) a4 a5 a6 a7 a8 h1 h2 h3 h4 h5 h6)
   clear a1 a2 a3 a4 a5 a6 a7 a8 hv51
   go_wp2
   go_region_law ((first | (refine Jx (by rfl) _ _ _ (by rfl) elK (by rfl) (HROW.out _ _ _ _ _ B.out ⟨rfl,rfl,rfl,rfl⟩) (B:=w1.heap.size) (c:=1) (cs:=#[.iface 128 (Pt xr)]) (tb:=245) (fr:=(0,0)) (by rfl) (HN.out _ _ _ ⟨rfl,rfl,rfl,rfl⟩).1 (by rfl) (by simp [Value.oneCell']) (by omega) (w1.heap.size + 1) (HN.out _ xr _ ⟨rfl,rfl,rfl,rfl⟩).2 ?_; intro g cap w4 hR4 hgrow hat hsz; have q0 := Ydy (HX.out _ _ _ _ _ _ B.out ⟨rfl,rfl,rfl,rfl⟩ hgrow); have q1 := Za (j:=0) q0.out rfl; have q2 := Zc q0.out 0; have HR4 := Ydy hR4; have HG4 := Ydy hgrow; clear hR4 hgrow) | (go_simp; go_wp2_with (go_at_call 51; refine (RK.out _ (by first | exact Sm.refl _ | exact Yd5 _ _ | exact ⟨rfl,rfl,rfl,rfl⟩)).mono ?_; rintro e w1 ⟨xr,cb,own1,rfl,b⟩; have B := Ydy b; have d0 : w1.cell? ⟨x,0,none⟩ = some v := Za (HC.out _ _ _ _ b) rfl; have d1 : ∀ o,(w1.alloc o).cell? ⟨x,0,none⟩ = some v := fun o => Za (Zm (HC.out _ _ _ _ b)) rfl; clear b))))
   all_goals
    go_wp2
    go_roundw
    case rel => exact ⟨k + 1,by omega,by go_num,HNX.out _ _ _ _ _ _ _ _ B.out ⟨rfl,rfl,rfl,rfl⟩ HR4.out HG4.out hat q0.out⟩
    case measure => simp [intOf]; omega
  ·have hke : k = N := by omega
   subst hke
   clear hS
   go_wp2
   go_ret
   exact HS.out.end' hp1 hp2
structure Qe (p : Pol) : Prop where
 c0 : 0 ≤ p.cap
 c1 : p.cap ≤ 512
 p0 : 1 ≤ p.per
 p1 : p.per ≤ 10000
 h0 : 0 ≤ p.cl.hits
 m0 : 0 ≤ p.cl.misses
 hm : p.cl.hits + p.cl.misses < p.per
 l0 : 0 ≤ p.cl.last
 l1 : p.cl.last ≤ 65536
 s0 : -1000 ≤ p.cl.step
 s1 : p.cl.step ≤ 1000
 wlo : loV p.cap ≤ p.win
 whi : p.win ≤ hiV p.cap
 pr : p.prot = Jv p.cap p.win
theorem Zgl (c : Cl) (hit : Bool) : (Yw c hit).hits + (Yw c hit).misses = c.hits + c.misses + 1 ∧ c.hits ≤ (Yw c hit).hits ∧ c.misses ≤ (Yw c hit).misses ∧ (Yw c hit).last = c.last ∧ (Yw c hit).step = c.step := by
 cases hit <;> simp [Yw] <;> omega
theorem Zkr (c : Cl) (hit : Bool) (h0 : 0 ≤ c.hits) (h1 : c.hits < 100000) (m0 : 0 ≤ c.misses) (m1 : c.misses < 100000) (l0 : 0 ≤ c.last) (l1 : c.last ≤ 65536) (s0 : -1000 ≤ c.step) (s1 : c.step ≤ 1000) (w : World) :
  Calls Ydz 104 #[clA c,.bool hit] w fun e w' => e = .returned (clA (Yw c hit)) ∧ Zb No w w' := by
 cases hit
 ·exact Zm5 c.hits c.misses c.last c.step h0 (by omega) m0 m1 l0 l1 s0 s1 w
 ·exact Zqm c.hits c.misses c.last c.step h0 h1 m0 (by omega) l0 l1 s0 s1 w
theorem Ycr (h : Zb No W w1) : (∀ b o,b < W.heap.size → w1.cell? ⟨b,o,none⟩ = W.cell? ⟨b,o,none⟩) ∧ (∀ b o,b < W.heap.size → w1.frozen? ⟨b,o,none⟩ = W.frozen? ⟨b,o,none⟩) ∧ W.heap.size ≤ w1.heap.size :=
 ⟨fun b o hb => World.cell?_of_block (h.block b hb (fun h => h)),fun b o hb => by simp only [World.frozen?,h.block b hb (fun h => h)],h.size⟩
def Zz3 (own : Nat → Nat) (w : World) (x : Nat) (l : Yb) (p : Pol) (e : Ending) (w' : World) : Prop := e = .returned (.tuple #[]) ∧ Zao own w x l p w'
theorem Zeu (h : Zv own w x l p) (hn : Qe p) (hc : p.rw.count ≤ 400) (hit : Bool) :
  Calls Ydz 63 #[Pt x,.bool hit] w (Zz3 own w x l (p.count hit)) := by
 obtain ⟨n1,n2,n3,n4,n5⟩ := Zgl p.cl hit
 have C := Ydy (Zkr p.cl hit hn.h0 (by have := hn.hm; have := hn.p1; have := hn.m0; omega) hn.m0 (by have := hn.hm; have := hn.p1; have := hn.h0; omega) hn.l0 hn.l1 hn.s0 hn.s1 w)
 have hbl : w.heap[x]? = some (.cells #[.int .i64 p.cap,.int .i64 p.per,Pt l.fx,Pt l.dx,.map (some l.km),.int .i64 p.cap,.int .i64 p.win,.int .i64 p.prot,.int .i64 p.cl.hits,.int .i64 p.cl.misses,.int .i64 p.cl.last,.int .i64 p.cl.step] 91 (0,0)) := h.block
 have hx := Ze hbl
 have h0 := hn.h0
 have m0 := hn.m0
 have hm := hn.hm
 have l0 := hn.l0
 have l1 := hn.l1
 have s0 := hn.s0
 have s1 := hn.s1
 have p1 := hn.p1
 have p0 := hn.p0
 have hcl : ∀ c : Cl,clA c = .agg #[.int .i64 c.hits,.int .i64 c.misses,.int .i64 c.last,.int .i64 c.step] := fun _ => rfl
 rw [hcl,hcl,n4,n5] at C
 clear hcl
 have HP : Hid (p.count hit = if p.per ≤ (Yw p.cl hit).hits + (Yw p.cl hit).misses then { p with cl := Zc1 (Yw p.cl hit) p.cap,win := Je p.cap p.win (Zah (Yw p.cl hit)),prot := Jv p.cap (Je p.cap p.win (Zah (Yw p.cl hit))),rw := p.rw.pass 2 (Jv p.cap (Je p.cap p.win (Zah (Yw p.cl hit)))) } else { p with cl := Yw p.cl hit }) := Ydy rfl
 have HCV : Hid (Yw p.cl hit = ⟨(Yw p.cl hit).hits,(Yw p.cl hit).misses,p.cl.last,p.cl.step⟩) := Ydy (by cases hit <;> rfl)
 generalize p.count hit = res at *
 generalize (Yw p.cl hit).hits = h' at *
 generalize (Yw p.cl hit).misses = m' at *
 have a8 := Za (j:=8) hbl rfl
 have a9 := Za (j:=9) hbl rfl
 have a10 := Za (j:=10) hbl rfl
 have a11 := Za (j:=11) hbl rfl
 have H := Ydy h
 have HN := Ydy hn
 have HB := Ydy hbl
 have HC := Ydy hc
 clear h hn hbl hc n4 n5
 go_enter Tryz.func63,Tryz.ntmps63
 go_wp2_with fail
 refine (C.out).mono ?_
 rintro e w1 ⟨rfl,ho1⟩
 have k := blk ho1 HB.out
 clear a8 a9 a10 a11
 have c0 := Za (j:=0) k rfl
 have c1 := Za (j:=1) k rfl
 have c2 := Za (j:=2) k rfl
 have c3 := Za (j:=3) k rfl
 have c4 := Za (j:=4) k rfl
 have c5 := Za (j:=5) k rfl
 have c6 := Za (j:=6) k rfl
 have c7 := Za (j:=7) k rfl
 have c8 := Za (j:=8) k rfl
 have c9 := Za (j:=9) k rfl
 have c10 := Za (j:=10) k rfl
 have c11 := Za (j:=11) k rfl
 have f0 := Zc k 0
 have f1 := Zc k 1
 have f2 := Zc k 2
 have f3 := Zc k 3
 have f4 := Zc k 4
 have f5 := Zc k 5
 have f6 := Zc k 6
 have f7 := Zc k 7
 have f8 := Zc k 8
 have f9 := Zc k 9
 have f10 := Zc k 10
 have f11 := Zc k 11
 have K := Ydy k
 have HO1 := Ydy ho1
 clear k ho1
 go_wp2
 have hb2 : ((w1.setCell ⟨x,8,none⟩ (.int .i64 h')).setCell ⟨x,9,none⟩ (.int .i64 m')).heap[x]? = some (.cells #[.int .i64 p.cap,.int .i64 p.per,Pt l.fx,Pt l.dx,.map (some l.km),.int .i64 p.cap,.int .i64 p.win,.int .i64 p.prot,.int .i64 h',.int .i64 m',.int .i64 p.cl.last,.int .i64 p.cl.step] 91 (0,0)) := by
  have := Zj (Zj K.out 8 (.int .i64 h')) 9 (.int .i64 m')
  simpa using this
 have hA : Zv own ((w1.setCell ⟨x,8,none⟩ (.int .i64 h')).setCell ⟨x,9,none⟩ (.int .i64 m')) x l { p with cl := ⟨h',m',p.cl.last,p.cl.step⟩ } :=
  (H.out.kept (Yed _ _) HO1.out (fun _ _ _ _ h => h)).cells hb2 (((Yd0 (fun b => b = x) w1).setCell (p:=⟨x,8,none⟩) (.inl rfl) _).setCell (p:=⟨x,9,none⟩) (.inl rfl) _) rfl rfl rfl
 have hO2 : Zb (Kb own) w ((w1.setCell ⟨x,8,none⟩ (.int .i64 h')).setCell ⟨x,9,none⟩ (.int .i64 m')) := by
  have o := H.out.ox
  exact (HO1.out.no.setCell (p:=⟨x,8,none⟩) (.inl ⟨by simp only; omega,by simp only; omega⟩) _).setCell (p:=⟨x,9,none⟩) (.inl ⟨by simp only; omega,by simp only; omega⟩) _
 generalize ((w1.setCell ⟨x,8,none⟩ (.int .i64 h')).setCell ⟨x,9,none⟩ (.int .i64 m')) = w2 at *
 clear c0 c1 c2 c3 c4 c5 c6 c7 c8 c9 c10 c11 f0 f1 f2 f3 f4 f5 f6 f7 f8 f9 f10 f11 K HO1
 have c0 := Za (j:=0) hb2 rfl
 have c1 := Za (j:=1) hb2 rfl
 have c2 := Za (j:=2) hb2 rfl
 have c3 := Za (j:=3) hb2 rfl
 have c4 := Za (j:=4) hb2 rfl
 have c5 := Za (j:=5) hb2 rfl
 have c6 := Za (j:=6) hb2 rfl
 have c7 := Za (j:=7) hb2 rfl
 have c8 := Za (j:=8) hb2 rfl
 have c9 := Za (j:=9) hb2 rfl
 have c10 := Za (j:=10) hb2 rfl
 have c11 := Za (j:=11) hb2 rfl
 have f0 := Zc hb2 0
 have f1 := Zc hb2 1
 have f2 := Zc hb2 2
 have f3 := Zc hb2 3
 have f4 := Zc hb2 4
 have f5 := Zc hb2 5
 have f6 := Zc hb2 6
 have f7 := Zc hb2 7
 have f8 := Zc hb2 8
 have f9 := Zc hb2 9
 have f10 := Zc hb2 10
 have f11 := Zc hb2 11
 have HA := Ydy hA
 have HO2 := Ydy hO2
 have HB2 := Ydy hb2
 clear hA hO2 hb2
 have D := Ydy (Zxp h' m' p.cl.last p.cl.step p.per (by omega) (by omega) (by omega) (by omega) l0 l1 s0 s1 (by omega))
 generalize hdb : decide (p.per ≤ h' + m') = due at D
 have HDB := Ydy hdb
 clear hdb
 refine Z4 8 (by kernel_rfl) (by kernel_rfl) ?_
 intro W3 hc3 hf3 hs3 HW3
 have hsm : Sm w2 W3 := by rw [← HW3.out]; exact ⟨rfl,rfl,rfl,rfl⟩
 have HSM := Ydy hsm
 clear hsm
 simp only [Yen,List.take_zero,Yem,List.drop_zero]
 iterate 8 still_step
 refine wpStill_nil ?_
 go_wp2_with fail
 refine (D.out W3).mono ?_
 rintro e w4 ⟨rfl,ho4⟩
 have HO4 := Ydy (HSM.out.only.trans ho4 : Zb No w2 w4)
 clear ho4 hc3 hf3 hs3 HW3 HSM
 cases due
 ·have HR := Ydy (show res = { p with cl := ⟨h',m',p.cl.last,p.cl.step⟩ } by rw [HP.out,if_neg (of_decide_eq_false HDB.out),HCV.out])
  go_wp2
  go_end0
  refine ⟨rfl,own,Yed _ _,?_,HO2.out.trans HO4.out.no⟩
  rw [HR.out]
  exact HA.out.kept (Yed _ _) HO4.out (fun _ _ _ _ h => h)
 ·have T := Ydy (fun W => Zwt h' m' p.cl.last p.cl.step p.cap (by omega) (by omega) (by omega) (by omega) l0 l1 s0 s1 HN.out.c0 (by have := HN.out.c1; omega) W)
  have hTC : ∃ tr ts,Zc1 ⟨h',m',p.cl.last,p.cl.step⟩ p.cap = ⟨0,0,tr,ts⟩ := ⟨_,_,rfl⟩
  obtain ⟨tr,ts,hTC⟩ := hTC
  rw [hTC] at T
  have HTC := Ydy hTC
  clear hTC
  obtain ⟨far,hfar⟩ := Zi7 (Zah ⟨h',m',p.cl.last,p.cl.step⟩)
  rw [hfar] at T
  have HFAR := Ydy hfar
  clear hfar
  have T2 : Hid (∀ W,Calls Ydz 106 #[.agg #[.int .i64 h',.int .i64 m',.int .i64 p.cl.last,.int .i64 p.cl.step],.int .i64 p.cap] W fun e w' => e = .returned (.tuple #[.agg #[.int .i64 0,.int .i64 0,.int .i64 tr,.int .i64 ts],.int .i64 far]) ∧ Zb No W w') := Ydy (fun W => T.out W)
  have k := blk HO4.out HB2.out
  clear T c0 c1 c2 c3 c4 c5 c6 c7 c8 c9 c10 c11 f0 f1 f2 f3 f4 f5 f6 f7 f8 f9 f10 f11 D
  have c0 := Za (j:=0) k rfl
  have c1 := Za (j:=1) k rfl
  have c2 := Za (j:=2) k rfl
  have c3 := Za (j:=3) k rfl
  have c4 := Za (j:=4) k rfl
  have c5 := Za (j:=5) k rfl
  have c6 := Za (j:=6) k rfl
  have c7 := Za (j:=7) k rfl
  have c8 := Za (j:=8) k rfl
  have c9 := Za (j:=9) k rfl
  have c10 := Za (j:=10) k rfl
  have c11 := Za (j:=11) k rfl
  have f0 := Zc k 0
  have f1 := Zc k 1
  have f2 := Zc k 2
  have f3 := Zc k 3
  have f4 := Zc k 4
  have f5 := Zc k 5
  have f6 := Zc k 6
  have f7 := Zc k 7
  have f8 := Zc k 8
  have f9 := Zc k 9
  have f10 := Zc k 10
  have f11 := Zc k 11
  have hx4 := Ze k
  have K4 := Ydy k
  clear k
  go_wp2
  go_cut [4,5] (fun v4 v5 wc => ∃ b,v4 = Pt b ∧ v5 = .int .i64 far ∧ w4.heap.size ≤ b ∧ Zb No w4 wc ∧ wc.heap[b]? = some (.cells #[.int .i64 0,.int .i64 0,.int .i64 tr,.int .i64 ts] 88 (0,0)))
  case first =>
   go_region_with (go_at_call 106; refine (T2.out _).mono ?_; rintro e w5 ⟨rfl,ho5⟩; obtain ⟨hc5,hf5,hz5⟩ := Ycr ho5; have HO5 := Ydy ho5; clear ho5)
   all_goals
    try go_wp2
    go_meet
    clear hc5 hf5
    refine ⟨_,rfl,rfl,?_,?_,?_⟩
    ·first | exact Yd1 _ | exact hz5
    ·(repeat (first | with_reducible exact Yd0 _ _ | with_reducible refine Yeg ?_ | with_reducible refine Yec ?_ _ | with_reducible refine Yeb ?_ _ | ((with_reducible refine Yd4 ?_ ?_ _); rotate_left; first | exact .inl rfl | exact .inr (Yd1 _) | exact .inl (.inl rfl) | exact .inl (.inr rfl) | exact .inl (.inr (.inl rfl)) | exact .inl (.inr (.inr rfl)) | (focus (right; first | (simp; done) | (simp; omega)))) | with_reducible refine Zb.trans ?_ (HO5.out)))
    ·first
      | exact Zh _ _
      | exact (Zj (Zj (HO5.out.kept (Zh w4 _) (fun h => h)) 2 _) 3 _).trans (by simp)
  case rest =>
   obtain ⟨b,rfl,rfl,hbz,hoc,hkb⟩ := hcut
   go_wp2
   have hx4' : x < wc.heap.size := Yd3 hx4 hoc.size
   have kx := hoc.kept K4.out (fun h => h)
   clear c0 c1 c2 c3 c4 c5 c6 c7 c8 c9 c10 c11 f0 f1 f2 f3 f4 f5 f6 f7 f8 f9 f10 f11
   have c0 := Za (j:=0) kx rfl
   have c1 := Za (j:=1) kx rfl
   have c2 := Za (j:=2) kx rfl
   have c3 := Za (j:=3) kx rfl
   have c4 := Za (j:=4) kx rfl
   have c5 := Za (j:=5) kx rfl
   have c6 := Za (j:=6) kx rfl
   have c7 := Za (j:=7) kx rfl
   have c8 := Za (j:=8) kx rfl
   have c9 := Za (j:=9) kx rfl
   have c10 := Za (j:=10) kx rfl
   have c11 := Za (j:=11) kx rfl
   have f0 := Zc kx 0
   have f1 := Zc kx 1
   have f2 := Zc kx 2
   have f3 := Zc kx 3
   have f4 := Zc kx 4
   have f5 := Zc kx 5
   have f6 := Zc kx 6
   have f7 := Zc kx 7
   have f8 := Zc kx 8
   have f9 := Zc kx 9
   have f10 := Zc kx 10
   have f11 := Zc kx 11
   have u0 := Za (j:=0) hkb rfl
   have u1 := Za (j:=1) hkb rfl
   have u2 := Za (j:=2) hkb rfl
   have u3 := Za (j:=3) hkb rfl
   have v0 := Zc hkb 0
   have v1 := Zc hkb 1
   have v2 := Zc hkb 2
   have v3 := Zc hkb 3
   have hxb : x ≠ b := by omega
   have hlb := Ze hkb
   have S := Ydy (fun W => Zlz p.cap p.win p.prot far HN.out.c0 (by have := HN.out.c1; omega) ⟨HN.out.wlo,HN.out.whi⟩ W)
   have hsin := Ze6 p.cap p.win far ⟨HN.out.wlo,HN.out.whi⟩
   have HSI := Ydy hsin
   have HOC := Ydy hoc
   have KX := Ydy kx
   have KB := Ydy hkb
   generalize hnw : Je p.cap p.win far = nw at *
   generalize hnp : Jv p.cap nw = np at *
   have HNW := Ydy hnw
   have HNP := Ydy hnp
   clear hsin hoc kx hkb hnw hnp
   go_region_with (go_at_call 107; refine (S.out _).mono ?_; rintro e w5 ⟨rfl,ho5⟩; have k5 := blk ho5 (Zas KX.out); have b5 := blk ho5 (Zas KB.out); have d5 := Za (j:=5) k5 rfl; have g5 := Zc k5 5; have d6 := Za (j:=6) k5 rfl; have g6 := Zc k5 6; have d7 := Za (j:=7) k5 rfl; have g7 := Zc k5 7; have d8 := Za (j:=8) k5 rfl; have g8 := Zc k5 8; have d9 := Za (j:=9) k5 rfl; have g9 := Zc k5 9; have d10 := Za (j:=10) k5 rfl; have g10 := Zc k5 10; have d11 := Za (j:=11) k5 rfl; have g11 := Zc k5 11; have y0 := Za (j:=0) b5 rfl; have y1 := Za (j:=1) b5 rfl; have y2 := Za (j:=2) b5 rfl; have y3 := Za (j:=3) b5 rfl; have HO5 := Ydy ho5; clear ho5 k5 b5)
   all_goals
    have k5 : w5.heap[x]? = some _ := blk HO5.out (Zas KX.out)
    have hb6 : ((((((w5.setCell ⟨x,8,none⟩ (.int .i64 0)).setCell ⟨x,9,none⟩ (.int .i64 0)).setCell ⟨x,10,none⟩ (.int .i64 tr)).setCell ⟨x,11,none⟩ (.int .i64 ts)).setCell ⟨x,6,none⟩ (.int .i64 nw)).setCell ⟨x,7,none⟩ (.int .i64 np)).heap[x]? = some (.cells #[.int .i64 p.cap,.int .i64 p.per,Pt l.fx,Pt l.dx,.map (some l.km),.int .i64 p.cap,.int .i64 nw,.int .i64 np,.int .i64 0,.int .i64 0,.int .i64 tr,.int .i64 ts] 91 (0,0)) := by
     have := Zj (Zj (Zj (Zj (Zj (Zj k5 8 (.int .i64 0)) 9 (.int .i64 0)) 10 (.int .i64 tr)) 11 (.int .i64 ts)) 6 (.int .i64 nw)) 7 (.int .i64 np)
     simpa using this
    have hO6 : Zb (fun b => b = x) w5 ((((((w5.setCell ⟨x,8,none⟩ (.int .i64 0)).setCell ⟨x,9,none⟩ (.int .i64 0)).setCell ⟨x,10,none⟩ (.int .i64 tr)).setCell ⟨x,11,none⟩ (.int .i64 ts)).setCell ⟨x,6,none⟩ (.int .i64 nw)).setCell ⟨x,7,none⟩ (.int .i64 np)) := by (repeat (first | with_reducible exact Yd0 _ _ | with_reducible refine Yeg ?_ | with_reducible refine Yec ?_ _ | with_reducible refine Yeb ?_ _ | ((with_reducible refine Yd4 ?_ ?_ _); rotate_left; first | exact .inl rfl | exact .inr (Yd1 _) | exact .inl (.inl rfl) | exact .inl (.inr rfl) | exact .inl (.inr (.inl rfl)) | exact .inl (.inr (.inr rfl)) | (focus (right; first | (simp; done) | (simp; omega))))))
    generalize ((((((w5.setCell ⟨x,8,none⟩ (.int .i64 0)).setCell ⟨x,9,none⟩ (.int .i64 0)).setCell ⟨x,10,none⟩ (.int .i64 tr)).setCell ⟨x,11,none⟩ (.int .i64 ts)).setCell ⟨x,6,none⟩ (.int .i64 nw)).setCell ⟨x,7,none⟩ (.int .i64 np)) = w6 at *
    have hNo : Zb No w2 w5 := (HO4.out.trans HOC.out).trans ((Yd0 No wc).drew.trans HO5.out)
    have hA6 : Zv own w6 x l { p with cl := ⟨0,0,tr,ts⟩,win := nw,prot := np } := (HA.out.kept (Yed _ _) hNo (fun _ _ _ _ h => h)).cells hb6 hO6 rfl rfl rfl
    have c7 := Za (j:=7) hb6 rfl
    have hnp0 : 0 ≤ np := by
     have h1 := HSI.out
     have h2 := Zd3 p.cap HN.out.c0
     rw [← HNP.out]
     unfold Jv
     omega
    have PS := Ydy (Zg2 hA6 HC.out (k:=2) (by omega) (by omega) hnp0)
    have hO : Zb (Kb own) w w6 := (HO2.out.trans hNo.no).trans (hO6.mono (fun b _ e => by have o := HN; have o1 := HA.out.ox; rw [e]; exact ⟨by omega,by omega⟩))
    have HO := Ydy hO
    have HRES := Ydy (show res = { p with cl := ⟨0,0,tr,ts⟩,win := nw,prot := np,rw := p.rw.pass 2 np } by rw [HP.out,if_pos (of_decide_eq_true HDB.out),HCV.out,HTC.out,HFAR.out,HNW.out,HNP.out])
    clear c0 c1 c2 c3 c4 c5 c6 c8 c9 c10 c11 f0 f1 f2 f3 f4 f5 f6 f7 f8 f9 f10 f11 u0 u1 u2 u3 v0 v1 v2 v3 d5 d6 d7 d8 d9 d10 d11 g5 g6 g7 g8 g9 g10 g11 y0 y1 y2 y3 k5 hb6 hO6 hNo hA6 hO
    go_wp2_with fail
    refine PS.out.mono ?_
    rintro e w7 ⟨rfl,own',a1,a2,a3⟩
    have A1 := Ydy a1
    have A2 := Ydy a2
    have A3 := Ydy a3
    clear a1 a2 a3
    go_wp2
    go_end0
    rw [HRES.out]
    exact ⟨rfl,own',fun b hb => A1.out b (Yd3 hb HO.out.size),A2.out,HO.out.trans A3.out⟩
theorem Zk9 {cap v : Int} (c0 : w.cell? ⟨x,0,none⟩ = some (.int .i64 cap)) (h0 : 0 ≤ v) (h1 : v ≤ cap) (h2 : cap ≤ 512) : Calls Ydz 100 #[Pt x,.int .i64 v] w fun e w' => e = .returned (.int .i64 0) ∧ w = w' := by
 go_enter Tryz.func100,Tryz.ntmps100
 go_wp2
 go_ret
 exact ⟨rfl,rfl⟩
def evA (e : Ev) : Value := .agg #[.int .i64 e.d,.int .i64 e.n,.int .i64 e.k,.int .i64 e.w]
def Zkg (w : World) (n : Int) (e : Ending) (w' : World) : Prop := e = .returned (.int .i64 n) ∧ Zb No w w'
theorem Zv.no (h : Zv own w x l p) (ho : Zb No w w') : Zv own w' x l p := h.kept (Yed _ _) ho (fun _ _ _ _ h => h)
theorem Zx8 (h : Zv own w x l p) (n k v : Int) (hn : 1 ≤ n ∧ n ≤ 65536) (hv0 : 0 ≤ v) (hv1 : v ≤ p.cap) (hcap : p.cap ≤ 512) (hno : Zk p.keys n = none) :
  Calls Ydz 61 #[Pt x,.agg #[.int .i64 1,.int .i64 n,.int .i64 k,.int .i64 v]] w (Zkg w 0) := by
 have hx := Ze h.block
 have hxne : w.heap.size ≠ x := Yd6 hx
 have c0 : w.cell? ⟨x,0,none⟩ = some (.int .i64 p.cap) := Za h.block rfl
 have c4 : w.cell? ⟨x,4,none⟩ = some (.map (some l.km)) := Za h.block rfl
 have hl : ∀ nq,(Instr.lookup 60 (.map (some l.km)) (.int .i64 n) true).run Ydz ((w.alloc (.cells #[.int .i64 1,.int .i64 n,.int .i64 k,.int .i64 v] 93)).drewN nq) = .ok (.tuple #[.int .i64 (Kr p n),.bool false]) ((w.alloc (.cells #[.int .i64 1,.int .i64 n,.int .i64 k,.int .i64 v] 93)).drewN nq) := fun nq => by
  have := (h.no (((Yd0 No w).alloc (.cells #[.int .i64 1,.int .i64 n,.int .i64 k,.int .i64 v] 93)).drewN nq)).there (id:=n) ⟨by omega,by omega⟩
  rw [hno] at this
  exact this
 have HV := Ydy (fun (W : World) (c : W.cell? ⟨x,0,none⟩ = some (.int .i64 p.cap)) => Zk9 (v:=v) c hv0 hv1 hcap)
 obtain ⟨hn0,hn1⟩ := hn
 clear h hno
 go_enter Yd9,Yd7
 go_wp2
 go_quiet (fail)
 go_wp2_with fail
 refine (HV.out _ (by go_simp)).mono ?_
 rintro e w' ⟨rfl,rfl⟩
 go_wp2
 go_ret
 refine ⟨rfl,?_⟩
 (repeat (first | with_reducible exact Yd0 _ _ | with_reducible refine Yeg ?_ | with_reducible refine Yec ?_ _ | with_reducible refine Yeb ?_ _ | ((with_reducible refine Yd4 ?_ ?_ _); rotate_left; first | exact .inl rfl | exact .inr (Yd1 _) | exact .inl (.inl rfl) | exact .inl (.inr rfl) | exact .inl (.inr (.inl rfl)) | exact .inl (.inr (.inr rfl)) | (focus (right; first | (simp; done) | (simp; omega))))))
theorem Zrb (h : Zv own w x l p) (n k v : Int) (hn : 0 ≤ n ∧ n ≤ 65536) (ht : (Zk p.keys n).isSome = false) :
  Calls Ydz 61 #[Pt x,.agg #[.int .i64 2,.int .i64 n,.int .i64 k,.int .i64 v]] w (Zkg w 3) := by
 have hx := Ze h.block
 have hxne : w.heap.size ≠ x := Yd6 hx
 have c0 : w.cell? ⟨x,0,none⟩ = some (.int .i64 p.cap) := Za h.block rfl
 have c4 : w.cell? ⟨x,4,none⟩ = some (.map (some l.km)) := Za h.block rfl
 have hl : ∀ nq,(Instr.lookup 60 (.map (some l.km)) (.int .i64 n) true).run Ydz ((w.alloc (.cells #[.int .i64 2,.int .i64 n,.int .i64 k,.int .i64 v] 93)).drewN nq) = .ok (.tuple #[.int .i64 (Kr p n),.bool false]) ((w.alloc (.cells #[.int .i64 2,.int .i64 n,.int .i64 k,.int .i64 v] 93)).drewN nq) := fun nq => by
  have := (h.no (((Yd0 No w).alloc (.cells #[.int .i64 2,.int .i64 n,.int .i64 k,.int .i64 v] 93)).drewN nq)).there (id:=n) ⟨by omega,by omega⟩
  rw [ht] at this
  exact this
 clear h ht
 go_enter Yd9,Yd7
 go_wp2
 go_quiet (fail)
 go_wp2
 go_ret
 refine ⟨rfl,?_⟩
 (repeat (first | with_reducible exact Yd0 _ _ | with_reducible refine Yeg ?_ | with_reducible refine Yec ?_ _ | with_reducible refine Yeb ?_ _ | ((with_reducible refine Yd4 ?_ ?_ _); rotate_left; first | exact .inl rfl | exact .inr (Yd1 _) | exact .inl (.inl rfl) | exact .inl (.inr rfl) | exact .inl (.inr (.inl rfl)) | exact .inl (.inr (.inr rfl)) | (focus (right; first | (simp; done) | (simp; omega))))))
theorem Zrc (h : Zv own w x l p) (n k v : Int) (hn : 0 ≤ n ∧ n ≤ 65536) (ht : (Zk p.keys n).isSome = false) :
  Calls Ydz 61 #[Pt x,.agg #[.int .i64 3,.int .i64 n,.int .i64 k,.int .i64 v]] w (Zkg w 3) := by
 have hx := Ze h.block
 have hxne : w.heap.size ≠ x := Yd6 hx
 have c0 : w.cell? ⟨x,0,none⟩ = some (.int .i64 p.cap) := Za h.block rfl
 have c4 : w.cell? ⟨x,4,none⟩ = some (.map (some l.km)) := Za h.block rfl
 have hl : ∀ nq,(Instr.lookup 60 (.map (some l.km)) (.int .i64 n) true).run Ydz ((w.alloc (.cells #[.int .i64 3,.int .i64 n,.int .i64 k,.int .i64 v] 93)).drewN nq) = .ok (.tuple #[.int .i64 (Kr p n),.bool false]) ((w.alloc (.cells #[.int .i64 3,.int .i64 n,.int .i64 k,.int .i64 v] 93)).drewN nq) := fun nq => by
  have := (h.no (((Yd0 No w).alloc (.cells #[.int .i64 3,.int .i64 n,.int .i64 k,.int .i64 v] 93)).drewN nq)).there (id:=n) ⟨by omega,by omega⟩
  rw [ht] at this
  exact this
 clear h ht
 go_enter Yd9,Yd7
 go_wp2
 go_quiet (fail)
 go_wp2
 go_ret
 refine ⟨rfl,?_⟩
 (repeat (first | with_reducible exact Yd0 _ _ | with_reducible refine Yeg ?_ | with_reducible refine Yec ?_ _ | with_reducible refine Yeb ?_ _ | ((with_reducible refine Yd4 ?_ ?_ _); rotate_left; first | exact .inl rfl | exact .inr (Yd1 _) | exact .inl (.inl rfl) | exact .inl (.inr rfl) | exact .inl (.inr (.inl rfl)) | exact .inl (.inr (.inr rfl)) | (focus (right; first | (simp; done) | (simp; omega))))))
theorem Zrd (h : Zv own w x l p) (n k v : Int) (hn : 0 ≤ n ∧ n ≤ 65536) (ht : (Zk p.keys n).isSome = false) :
  Calls Ydz 61 #[Pt x,.agg #[.int .i64 4,.int .i64 n,.int .i64 k,.int .i64 v]] w (Zkg w 3) := by
 have hx := Ze h.block
 have hxne : w.heap.size ≠ x := Yd6 hx
 have c0 : w.cell? ⟨x,0,none⟩ = some (.int .i64 p.cap) := Za h.block rfl
 have c4 : w.cell? ⟨x,4,none⟩ = some (.map (some l.km)) := Za h.block rfl
 have hl : ∀ nq,(Instr.lookup 60 (.map (some l.km)) (.int .i64 n) true).run Ydz ((w.alloc (.cells #[.int .i64 4,.int .i64 n,.int .i64 k,.int .i64 v] 93)).drewN nq) = .ok (.tuple #[.int .i64 (Kr p n),.bool false]) ((w.alloc (.cells #[.int .i64 4,.int .i64 n,.int .i64 k,.int .i64 v] 93)).drewN nq) := fun nq => by
  have := (h.no (((Yd0 No w).alloc (.cells #[.int .i64 4,.int .i64 n,.int .i64 k,.int .i64 v] 93)).drewN nq)).there (id:=n) ⟨by omega,by omega⟩
  rw [ht] at this
  exact this
 clear h ht
 go_enter Yd9,Yd7
 go_wp2
 go_quiet (fail)
 go_wp2
 go_ret
 refine ⟨rfl,?_⟩
 (repeat (first | with_reducible exact Yd0 _ _ | with_reducible refine Yeg ?_ | with_reducible refine Yec ?_ _ | with_reducible refine Yeb ?_ _ | ((with_reducible refine Yd4 ?_ ?_ _); rotate_left; first | exact .inl rfl | exact .inr (Yd1 _) | exact .inl (.inl rfl) | exact .inl (.inr rfl) | exact .inl (.inr (.inl rfl)) | exact .inl (.inr (.inr rfl)) | (focus (right; first | (simp; done) | (simp; omega))))))
theorem Znt (h : Zv own w x l p) (n k v : Int) (hn : 0 ≤ n ∧ n ≤ 65536) (ht : (Zk p.keys n).isSome = true) :
  Calls Ydz 61 #[Pt x,.agg #[.int .i64 2,.int .i64 n,.int .i64 k,.int .i64 v]] w (Zkg w 0) := by
 have hx := Ze h.block
 have hxne : w.heap.size ≠ x := Yd6 hx
 have c0 : w.cell? ⟨x,0,none⟩ = some (.int .i64 p.cap) := Za h.block rfl
 have c4 : w.cell? ⟨x,4,none⟩ = some (.map (some l.km)) := Za h.block rfl
 have hl : ∀ nq,(Instr.lookup 60 (.map (some l.km)) (.int .i64 n) true).run Ydz ((w.alloc (.cells #[.int .i64 2,.int .i64 n,.int .i64 k,.int .i64 v] 93)).drewN nq) = .ok (.tuple #[.int .i64 (Kr p n),.bool true]) ((w.alloc (.cells #[.int .i64 2,.int .i64 n,.int .i64 k,.int .i64 v] 93)).drewN nq) := fun nq => by
  have := (h.no (((Yd0 No w).alloc (.cells #[.int .i64 2,.int .i64 n,.int .i64 k,.int .i64 v] 93)).drewN nq)).there (id:=n) ⟨by omega,by omega⟩
  rw [ht] at this
  exact this
 clear h ht
 go_enter Yd9,Yd7
 go_wp2
 go_quiet (fail)
 go_wp2
 go_ret
 refine ⟨rfl,?_⟩
 (repeat (first | with_reducible exact Yd0 _ _ | with_reducible refine Yeg ?_ | with_reducible refine Yec ?_ _ | with_reducible refine Yeb ?_ _ | ((with_reducible refine Yd4 ?_ ?_ _); rotate_left; first | exact .inl rfl | exact .inr (Yd1 _) | exact .inl (.inl rfl) | exact .inl (.inr rfl) | exact .inl (.inr (.inl rfl)) | exact .inl (.inr (.inr rfl)) | (focus (right; first | (simp; done) | (simp; omega))))))
theorem Znv (h : Zv own w x l p) (n k v : Int) (hn : 0 ≤ n ∧ n ≤ 65536) (ht : (Zk p.keys n).isSome = true) :
  Calls Ydz 61 #[Pt x,.agg #[.int .i64 4,.int .i64 n,.int .i64 k,.int .i64 v]] w (Zkg w 0) := by
 have hx := Ze h.block
 have hxne : w.heap.size ≠ x := Yd6 hx
 have c0 : w.cell? ⟨x,0,none⟩ = some (.int .i64 p.cap) := Za h.block rfl
 have c4 : w.cell? ⟨x,4,none⟩ = some (.map (some l.km)) := Za h.block rfl
 have hl : ∀ nq,(Instr.lookup 60 (.map (some l.km)) (.int .i64 n) true).run Ydz ((w.alloc (.cells #[.int .i64 4,.int .i64 n,.int .i64 k,.int .i64 v] 93)).drewN nq) = .ok (.tuple #[.int .i64 (Kr p n),.bool true]) ((w.alloc (.cells #[.int .i64 4,.int .i64 n,.int .i64 k,.int .i64 v] 93)).drewN nq) := fun nq => by
  have := (h.no (((Yd0 No w).alloc (.cells #[.int .i64 4,.int .i64 n,.int .i64 k,.int .i64 v] 93)).drewN nq)).there (id:=n) ⟨by omega,by omega⟩
  rw [ht] at this
  exact this
 clear h ht
 go_enter Yd9,Yd7
 go_wp2
 go_quiet (fail)
 go_wp2
 go_ret
 refine ⟨rfl,?_⟩
 (repeat (first | with_reducible exact Yd0 _ _ | with_reducible refine Yeg ?_ | with_reducible refine Yec ?_ _ | with_reducible refine Yeb ?_ _ | ((with_reducible refine Yd4 ?_ ?_ _); rotate_left; first | exact .inl rfl | exact .inr (Yd1 _) | exact .inl (.inl rfl) | exact .inl (.inr rfl) | exact .inl (.inr (.inl rfl)) | exact .inl (.inr (.inr rfl)) | (focus (right; first | (simp; done) | (simp; omega))))))
theorem Znu (h : Zv own w x l p) (n k v : Int) (hn : 0 ≤ n ∧ n ≤ 65536) (ht : (Zk p.keys n).isSome = true) (hv0 : 0 ≤ v) (hv1 : v ≤ p.cap) (hcap : p.cap ≤ 512) :
  Calls Ydz 61 #[Pt x,.agg #[.int .i64 3,.int .i64 n,.int .i64 k,.int .i64 v]] w (Zkg w 0) := by
 have hx := Ze h.block
 have hxne : w.heap.size ≠ x := Yd6 hx
 have c0 : w.cell? ⟨x,0,none⟩ = some (.int .i64 p.cap) := Za h.block rfl
 have c4 : w.cell? ⟨x,4,none⟩ = some (.map (some l.km)) := Za h.block rfl
 have hl : ∀ nq,(Instr.lookup 60 (.map (some l.km)) (.int .i64 n) true).run Ydz ((w.alloc (.cells #[.int .i64 3,.int .i64 n,.int .i64 k,.int .i64 v] 93)).drewN nq) = .ok (.tuple #[.int .i64 (Kr p n),.bool true]) ((w.alloc (.cells #[.int .i64 3,.int .i64 n,.int .i64 k,.int .i64 v] 93)).drewN nq) := fun nq => by
  have := (h.no (((Yd0 No w).alloc (.cells #[.int .i64 3,.int .i64 n,.int .i64 k,.int .i64 v] 93)).drewN nq)).there (id:=n) ⟨by omega,by omega⟩
  rw [ht] at this
  exact this
 have HV := Ydy (fun (W : World) (c : W.cell? ⟨x,0,none⟩ = some (.int .i64 p.cap)) => Zk9 (v:=v) c hv0 hv1 hcap)
 clear h ht
 go_enter Yd9,Yd7
 go_wp2
 go_quiet (fail)
 go_wp2_with fail
 refine (HV.out _ (by go_simp)).mono ?_
 rintro e w' ⟨rfl,rfl⟩
 go_wp2
 go_ret
 refine ⟨rfl,?_⟩
 (repeat (first | with_reducible exact Yd0 _ _ | with_reducible refine Yeg ?_ | with_reducible refine Yec ?_ _ | with_reducible refine Yeb ?_ _ | ((with_reducible refine Yd4 ?_ ?_ _); rotate_left; first | exact .inl rfl | exact .inr (Yd1 _) | exact .inl (.inl rfl) | exact .inl (.inr rfl) | exact .inl (.inr (.inl rfl)) | exact .inl (.inr (.inr rfl)) | (focus (right; first | (simp; done) | (simp; omega))))))
theorem Qe.same {p' : Pol} (h : Qe p) (h1 : p'.cap = p.cap) (h2 : p'.per = p.per) (h3 : p'.cl = p.cl) (h4 : p'.win = p.win) (h5 : p'.prot = p.prot) : Qe p' := by
 obtain ⟨a1,a2,a3,a4,a5,a6,a7,a8,a9,a10,a11,a12,a13,a14⟩ := h
 refine ⟨?_,?_,?_,?_,?_,?_,?_,?_,?_,?_,?_,?_,?_,?_⟩ <;> (first | rw [h5] | skip) <;> (try rw [h1]) <;> (try rw [h2]) <;> (try rw [h3]) <;> (try rw [h4]) <;> assumption
theorem Zgm (p : Pol) (hit : Bool) : p.count hit = if p.per ≤ (Yw p.cl hit).hits + (Yw p.cl hit).misses then { p with cl := Zc1 (Yw p.cl hit) p.cap,win := Je p.cap p.win (Zah (Yw p.cl hit)),prot := Jv p.cap (Je p.cap p.win (Zah (Yw p.cl hit))),rw := p.rw.pass 2 (Jv p.cap (Je p.cap p.win (Zah (Yw p.cl hit)))) } else { p with cl := Yw p.cl hit } := rfl
theorem Yal {c : Cl} (h0 : -1000 ≤ c.step) (h1 : c.step ≤ 1000) : -1000 ≤ Zah c ∧ Zah c ≤ 1000 := by unfold Zah; split <;> omega
theorem Qe.count (h : Qe p) (hit : Bool) : Qe (p.count hit) ∧ (p.count hit).rw.count = p.rw.count ∧ (p.count hit).keys = p.keys ∧ (p.count hit).cap = p.cap ∧ (p.count hit).fi = p.fi := by
 obtain ⟨n1,n2,n3,n4,n5⟩ := Zgl p.cl hit
 obtain ⟨a1,a2,a3,a4,a5,a6,a7,a8,a9,a10,a11,a12,a13,a14⟩ := h
 rw [Zgm]
 generalize Yw p.cl hit = c at *
 by_cases hd : p.per ≤ c.hits + c.misses
 ·rw [if_pos hd]
  have hr := Zpq c (by omega) (by omega)
  have hf := Yal (c:=c) (by omega) (by omega)
  have hk := Zbe (Zah c) (by omega) (by omega)
  have h1 := Zh7 p.cap a1 (by omega)
  have hs := Ze6 p.cap p.win (Zah c) ⟨a12,a13⟩
  refine ⟨⟨a1,a2,a3,a4,Int.le_refl _,Int.le_refl _,by show (0 : Int) + 0 < p.per; omega,hr.1,hr.2,?_,?_,hs.1,hs.2,rfl⟩,Zbi _ (by omega) (by omega) _,rfl,rfl,rfl⟩
  ·show -1000 ≤ (if Jw c - c.last ≥ 3277 ∨ -(Jw c - c.last) ≥ 3277 then (if Zah c < 0 then -Xl p.cap else Xl p.cap) else Qw (Zah c))
   split
   ·split <;> omega
   ·exact hk.1
  ·show (if Jw c - c.last ≥ 3277 ∨ -(Jw c - c.last) ≥ 3277 then (if Zah c < 0 then -Xl p.cap else Xl p.cap) else Qw (Zah c)) ≤ 1000
   split
   ·split <;> omega
   ·exact hk.2
 ·rw [if_neg hd]
  exact ⟨⟨a1,a2,a3,a4,by show 0 ≤ c.hits; omega,by show 0 ≤ c.misses; omega,by show c.hits + c.misses < p.per; omega,by show 0 ≤ c.last; omega,by show c.last ≤ 65536; omega,by show -1000 ≤ c.step; omega,by show c.step ≤ 1000; omega,a12,a13,a14⟩,rfl,rfl,rfl,rfl⟩
theorem Vz (r : Rw) (hk : k < 3) (t : Nw) : (r.push k t).count = r.count + 1 := by
 have e : ∀ q : Rw,q.count = (q.get 0).length + (q.get 1).length + (q.get 2).length := fun q => rfl
 rw [e,e,V0 _ hk (by omega),V0 _ hk (by omega),V0 _ hk (by omega)]
 have hkk : k = 0 ∨ k = 1 ∨ k = 2 := by omega
 rcases hkk with rfl | rfl | rfl
 ·simp; omega
 ·simp; omega
 ·simp; omega
theorem Qe.prot0 (h : Qe p) : 0 ≤ p.prot ∧ 0 ≤ p.win := by
 have h1 := Zd3 p.cap h.c0
 have h2 := h.wlo
 have h3 := h.whi
 rw [h.pr]
 unfold Jv
 omega
def Zek (p : Pol) (f : Fi) (id : Int) : Pol :=
 match p.rw.of id with
 | none => ({ p with fi := f } : Pol).count true
 | some (k,v) =>
  if k = 1 then ({ p with fi := f,rw := ((p.rw.out id).push 2 (id,v)).pass 2 p.prot } : Pol).count true
  else ({ p with fi := f,rw := (p.rw.out id).push k (id,v) } : Pol).count true
theorem Zf7 (p : Pol) (id : Int) : p.read id = Zek p (Kf p.fi (Kr p id)) id := rfl
theorem Zdn {f : Fi} {v : Int} (h : p.rw.of id = some (1,v)) : Zek p f id = ({ p with fi := f,rw := ((p.rw.out id).push 2 (id,v)).pass 2 p.prot } : Pol).count true := by
 unfold Zek
 rw [h]
 rfl
theorem Zdm {f : Fi} {v : Int} (h : p.rw.of id = some (k,v)) (hk : k ≠ 1) : Zek p f id = ({ p with fi := f,rw := (p.rw.out id).push k (id,v) } : Pol).count true := by
 unfold Zek
 rw [h]
 simp [hk]
def Yb5 (own : Nat → Nat) (w : World) (x : Nat) (l : Yb) (p : Pol) (e : Ending) (w' : World) : Prop := e = .returned (.tuple #[]) ∧ Zao own w x l p w'
theorem Zao.then (h1 : Ext w own own1) (h2 : Zb (Kb own) w w1) (h : Zao own1 w1 x l p w') : Zao own w x l p w' := by
 obtain ⟨own',a1,a2,a3⟩ := h
 exact ⟨own',h1.trans h2.size a1,a2,h2.then a3 (fun i hi hT => by have h : 20 ≤ own1 i ∧ own1 i < 40 := hT; rw [h1 i hi] at h; exact h)⟩
theorem Zlu (h : Zv own w x l p) (hn : Qe p) (hc : p.rw.count ≤ 400) {v : Int} (hof : p.rw.of id = some (k,v)) :
  Calls Ydz 67 #[Pt x,.int .i64 id] w (Yb5 own w x l (p.read id)) := by
 have hk3 := (Ze0 hof).1
 have hid := Zce h.rw hof
 have hoc := h.rw.out_count hof
 obtain ⟨pr0,wn0⟩ := hn.prot0
 have c2 : w.cell? ⟨x,2,none⟩ = some (Pt l.fx) := Za h.block rfl
 have c4 : w.cell? ⟨x,4,none⟩ = some (.map (some l.km)) := Za h.block rfl
 have KL := Ydy (fun W hs => (h.sm hs : Zv own W x l p).key (id:=id) ⟨by omega,by omega⟩)
 have R := Ydy (fun W hs => Zg7 (h.sm hs : Zv own W x l p).fi (Kr p id))
 rw [Zf7]
 obtain ⟨f,hf⟩ := Zi7 (Kf p.fi (Kr p id))
 rw [hf]
 have R2 : Hid (∀ W,Sm w W → Calls Ydz 62 #[Pt l.fx,.int .i64 (Kr p id)] W fun e w' => e = .returned (.tuple #[]) ∧ Za7 own w' l.fx l.fl f ∧ Zb (FiL own) W w') := Ydy (fun W hs => by
  have := R.out W hs
  unfold Zw7 at this
  rw [hf] at this
  exact this)
 have H := Ydy h
 have HNu := Ydy hn
 have HOF := Ydy hof
 have HCC := Ydy hc
 have HOC := Ydy hoc
 clear h hn hof R hf hc hoc
 generalize Kr p id = key at *
 go_enter Tryz.func67,Tryz.ntmps67
 go_wp2
 refine Z4 10 (by kernel_rfl) (by kernel_rfl) ?_
 intro W3 hc3 hf3 hs3 HW3
 have hsm : Sm w W3 := by rw [← HW3.out]; exact ⟨rfl,rfl,rfl,rfl⟩
 have kl := KL.out W3 hsm
 have HSM := Ydy hsm
 clear hsm
 simp only [Yen,List.take_zero,Yem,List.drop_zero]
 iterate 10 still_step
 refine wpStill_nil ?_
 go_wp2_with fail
 refine (R2.out W3 HSM.out).mono ?_
 rintro e w4 ⟨rfl,hf4,ho4⟩
 have hA := (H.out.sm HSM.out).filter hf4 ho4
 have hO4 : Zb (Kb own) w w4 := HSM.out.only.trans (ho4.mono (fun b _ hF => hF.pol))
 have c3' : w4.cell? ⟨x,3,none⟩ = some (Pt l.dx) := Za hA.block rfl
 have OF := Ydy (Ydt hA.rw HOF.out)
 have HA := Ydy hA
 have HO4 := Ydy hO4
 clear hA hO4 hf4 ho4 kl hc3 hf3 hs3 HW3 HSM c2 c4
 go_wp2_with fail
 refine OF.out.mono ?_
 rintro e w5 ⟨rfl,nq,hw5⟩
 subst hw5
 have MV := Ydy (fun j hj => Zv7 (HA.out.rw.sm (Yd5 w4 nq)) HOF.out (i:=j) hj HCC.out)
 by_cases hk1 : k = 1
 ·subst hk1
  have HR := Ydy (Zdn (f:=f) HOF.out)
  have M2 : Hid (Calls Ydz 115 #[Pt l.dx,.int .i64 id,.int .i64 2] (w4.drewN nq) (RwQ own (w4.drewN nq) l.dx ((p.rw.out id).push 2 (id,v)))) := Ydy (MV.out 2 (by omega))
  clear MV
  go_wp2_with fail
  refine (M2.out).mono ?_
  rintro e w6 ⟨rfl,own6,a1,a2,a3⟩
  have hA6 := (HA.out.sm (Yd5 w4 nq)).rows a1 a2 a3
  have hO6 : Zb (Kb own) w w6 := HO4.out.trans ((Yd0 _ w4).drewN nq |>.trans (a3.mono (fun b _ h => h.pol)))
  have hE6 : Ext w own own6 := fun b hb => a1 b (Yd3 hb HO4.out.size)
  have hcn : ((p.rw.out id).push 2 (id,v)).count ≤ 400 := by rw [Vz _ (by omega)]; have := HOC.out; have := HCC.out; omega
  have PS := Ydy (Zg2 hA6 hcn (k:=2) (by omega) (by omega) (most:=p.prot) pr0)
  have c7 : w6.cell? ⟨x,7,none⟩ = some (.int .i64 p.prot) := Za hA6.block rfl
  have HO6 := Ydy hO6
  have HE6 := Ydy hE6
  have HCN := Ydy hcn
  clear a1 a2 a3 hA6 hO6 hE6 hcn c3'
  go_wp2_with fail
  refine (PS.out).mono ?_
  rintro e w7 ⟨rfl,own7,b1,b2,b3⟩
  have hE7 : Ext w own own7 := HE6.out.trans HO6.out.size b1
  have hO7 : Zb (Kb own) w w7 := HO6.out.then b3 (fun i hi hT => by have h : 20 ≤ own6 i ∧ own6 i < 40 := hT; rw [HE6.out i hi] at h; exact h)
  have CT := Ydy (Zeu b2 (HNu.out.same rfl rfl rfl rfl rfl) (by show (Rw.pass _ 2 p.prot).count ≤ 400; rw [Zbi _ (by omega) (by omega)]; exact HCN.out) true)
  have HE7 := Ydy hE7
  have HO7 := Ydy hO7
  clear b1 b2 b3 hE7 hO7 c7
  go_wp2_with fail
  refine (CT.out).mono ?_
  rintro e w8 ⟨rfl,hq⟩
  have HQ := Ydy hq
  clear hq
  go_wp2
  go_end0
  rw [HR.out]
  exact ⟨rfl,Zao.then HE7.out HO7.out HQ.out⟩
 ·have HR := Ydy (Zdm (f:=f) HOF.out hk1)
  have hkb : ((k : Int) == 1) = false := beq_eq_false_iff_ne.2 (by omega)
  have M2 := Ydy (MV.out k hk3)
  clear MV hk1
  go_wp2_with fail
  refine (M2.out).mono ?_
  rintro e w6 ⟨rfl,own6,a1,a2,a3⟩
  have hA6 := (HA.out.sm (Yd5 w4 nq)).rows a1 a2 a3
  have hO6 : Zb (Kb own) w w6 := HO4.out.trans ((Yd0 _ w4).drewN nq |>.trans (a3.mono (fun b _ h => h.pol)))
  have hE6 : Ext w own own6 := fun b hb => a1 b (Yd3 hb HO4.out.size)
  have CT := Ydy (Zeu hA6 (HNu.out.same rfl rfl rfl rfl rfl) (by show (Rw.push _ k (id,v)).count ≤ 400; rw [Vz _ hk3]; have := HOC.out; have := HCC.out; omega) true)
  have HO6 := Ydy hO6
  have HE6 := Ydy hE6
  clear a1 a2 a3 hA6 hO6 hE6 c3'
  go_wp2_with fail
  refine (CT.out).mono ?_
  rintro e w8 ⟨rfl,hq⟩
  have HQ := Ydy hq
  clear hq
  go_wp2
  go_end0
  rw [HR.out]
  exact ⟨rfl,Zao.then HE6.out HO6.out HQ.out⟩
end
end Go.Proofs.YtdkhbegheognnaaGreatDoor.W

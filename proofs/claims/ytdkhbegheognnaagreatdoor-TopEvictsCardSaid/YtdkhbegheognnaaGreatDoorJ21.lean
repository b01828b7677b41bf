/- Part of the proof of TopEvicts, joined by a program of the session: Mck Mcn Mco Mcp Mcq Mcr Mcs Mcl Mbx Mbz Mcb Mcc. -/
import Derived.Test.YtdkhbegheognnaaGreatDoorJ20
import Derived.Test.YtdkhbegheognnaaGreatDoorJ07
import Derived.Test.YtdkhbegheognnaaGreatDoorJ19
import Derived.Test.YtdkhbegheognnaaGreatDoorJ16
import Derived.Lib.Tables
import Derived.Lib.BitFns
import Derived.Lib.ItoaWalk
import Derived.Deep.LoopGhost
import Derived.Deep.RegionHeld3
namespace Go.Proofs.YtdkhbegheognnaaGreatDoor.W
open Go.RowKit Go.Maps
open _root_.Go.Proofs.Tryz renaming prog → Ydz, underlying173 → Yeg, ntmps120 → Yej, func120 → Yep, underlying60 → Yez
open Zb renaming refl → Yd0
open _root_.List renaming getElem?_eq_getElem → Yd1, mem_of_getElem? → Yd3, mem_iff_getElem? → Yd5, length_append → Yd6, getElem?_eq_none → Yd7, getD_eq_getElem?_getD → Yd9, mem_map → Yeb, mem_flatMap → Yec, prefix_append_right_inj → Yee, replicate → Yef, exists_cons_of_ne_nil → Yei, getElem?_map → Yek, take_add_one → Yel, take_length → Yem, flatMap_eq_nil_iff → Yeq, append_nil → Yer, length_nil → Yes, take_append_drop → Yet, flatMap_append → Yeu, getElem?_drop → Yev, ne_nil_of_mem → Yew, append_assoc → Yey
open _root_.Nat renaming zero_le → Yd2, le_add_right → Yd8, le_refl → Yea, ne_of_lt → Yed, le_trans → Yen, lt_or_ge → Yeo, zero_add → Yex
open _root_.Go.World renaming block_lt_of_cell? → Yd4, setCell_drew → Yeh
set_option maxHeartbeats 4000000
set_option maxRecDepth 100000
variable {own : Nat → Nat}
variable {w wr w' W' : World}
variable {lb i x N M K : Nat}
variable {xs : List Value}
variable {v f : Value}
variable {cs : List Qq}
variable {l : List Rec}
variable {m : List (Int × Int)}
variable {z : Int}
variable {a2 : Option Addr}
variable {C : List Chn}
variable {e0 : Ent}
variable {ps : List (List Op)}
variable {s s' : St}
section
attribute [local go_sem] Yeh Zg Zf
theorem Yd.down {w1 : World} {e size k : Nat} (h : Yd own w1 lb e size k xs v wr) (ho : Zb No w w1) : Yd own w lb e size k xs v wr := by
 obtain ⟨own',h1,h2,h3,h4⟩ := h
 have := ho.size
 exact ⟨own',fun b hb => h1 b (by omega),h2,ho.trans h3,fun b hb => by have := h4 b hb; omega⟩
theorem Zdh {a : Option Addr} {c : Nat} (l : List Rec) (hl : Yy w a (Z5 l)) (hlen : l.length ≤ 1000) {x : Rd} (hx : Xa l l.length = some x) (hb : ∀ r ∈ l,-1 ≤ r.o ∧ r.o ≤ 100000) (own : Nat → Nat) (lb : Nat) :
  Calls Ydz 39 #[.slice a l.length c] w fun e w' => ∃ u,e = .returned u ∧ Yd own w lb 105 5 x.calls.length (Yc x.calls) u w' := by
 have HC := Ydy (Zhy (c:=c) l hl hlen hx hb own lb)
 clear hl hx hb
 go_enter Tryz.func39,Tryz.ntmps39
 go_wp2_with fail
 refine (HC.out).mono ?_
 rintro e w1 ⟨u,rfl,h1⟩
 have H1 := Ydy h1
 clear h1 HC
 go_wp2
 go_ret
 exact ⟨u,rfl,H1.out⟩
theorem Ztk (cs : List Qq) : ∀ n,Yo (atV cs n) ∧ (atV cs n).length ≤ n
 | 0 => ⟨List.nodup_nil,Yea _⟩
 | n + 1 => by
  have h := Ztk cs n
  unfold atV
  cases cs[n]? with
  | none => exact ⟨h.1,by have := h.2; show (atV cs n).length ≤ _; omega⟩
  | some c => exact ⟨h.1.put _ _,by show (Yn (atV cs n) c.a n).length ≤ _; rw [Xk h.1]; have := h.2; split <;> omega⟩
theorem Ztj {n : Nat} {c : Qq} (h : cs[n]? = some c) : atV cs (n + 1) = Yn (atV cs n) c.a n := by
 show (match cs[n]? with | none => atV cs n | some c => Yn (atV cs n) c.a n) = _
 rw [h]
theorem Zvi {n : Nat} {r : Rec} (h : l[n]? = some r) (ha : r.a = 2) (ho : 0 ≤ r.o) : K6 l m (n + 1) = K6 l m n ++ [(Zk m (n : Int)).getD 0] := by
 show (match l[n]? with | none => K6 l m n | some r => if r.a = 2 then K6 l m n ++ [if r.o < 0 then -1 else (Zk m (n : Int)).getD 0] else K6 l m n) = _
 rw [h]
 simp only
 rw [if_pos ha,if_neg (by omega)]
theorem Zyi {n : Nat} {r : Rec} (h : l[n]? = some r) (ha : r.a ≠ 2) : K6 l m (n + 1) = K6 l m n := by
 show (match l[n]? with | none => K6 l m n | some r => if r.a = 2 then K6 l m n ++ [if r.o < 0 then -1 else (Zk m (n : Int)).getD 0] else K6 l m n) = _
 rw [h]
 simp only
 rw [if_neg ha]
theorem Zlp (l : List Rec) (m : List (Int × Int)) : ∀ n,(K6 l m n).length ≤ n
 | 0 => Yea _
 | n + 1 => by
  have := Zlp l m n
  unfold K6
  split
  ·omega
  ·split
   ·rw [Yd6,List.length_singleton]; omega
   ·omega
theorem Zs.not_cell {m n : Nat} {f : Int → Option Value} (h : Zs w m f n) {b j : Nat} (hc : w.cell? ⟨b,j,none⟩ = some v) : b ≠ m := by
 obtain ⟨D,⟨es,clock,hh,_⟩,_⟩ := h
 intro e
 subst e
 simp [World.cell?,hh] at hc
def AtR (w w2 : World) (cs : List Qq) (mb k : Nat) (wr : World) : Prop := Zs wr mb (kf (atV cs k)) (atV cs k).length ∧ Zb No w wr ∧ w.heap.size ≤ mb ∧ Zb (fun b => b = mb) w2 wr
theorem Zrj {a : Option Addr} {c : Nat} (l : List Rec) (hl : Yy w a (Z5 l)) (hlen : l.length ≤ 1000) {x : Rd} (hx : Xa l l.length = some x) (hb : ∀ r ∈ l,0 ≤ r.o ∧ r.o ≤ 100000) (hcl : x.calls.length ≤ 1000) (hca : ∀ k ∈ x.calls,I64 k.a) (own : Nat → Nat) (lb : Nat) :
  Calls Ydz 40 #[.slice a l.length c] w fun e w' => ∃ u,e = .returned u ∧ Yd own w lb 3 1 (Ze1 l x.calls).length (Y1 (Ze1 l x.calls)) u w' := by
 have hb' : ∀ r ∈ l,-1 ≤ r.o ∧ r.o ≤ 100000 := fun r hr => ⟨by have := (hb r hr).1; omega,(hb r hr).2⟩
 have hr : J4 l = true := by unfold J4 Zes; rw [hx]; rfl
 have HRT := Ydy (Zax (w:=w) (a:=a) (c:=c) l hl hlen hr hb')
 have HCL : Hid (∀ W,Zb No w W → Calls Ydz 39 #[.slice a l.length c] W fun e w' => ∃ a2 c2,e = .returned (.slice a2 x.calls.length c2) ∧ Yy w' a2 (Yc x.calls) ∧ Zb No W w') := Ydy (fun W hW => (Zdh (c:=c) l (hl.no hW) hlen hx hb' (fun _ => 19) 14).mono fun e w' q => by
  obtain ⟨u,rfl,hG⟩ := q
  obtain ⟨a2,c2,rfl,hs⟩ := hG.src
  exact ⟨a2,c2,rfl,hs,hG.only⟩)
 have HL := Ydy hl
 have HB := Ydy hb
 have HCA := Ydy hca
 have HD : Hid (∀ w1 k v wr,Zb No w w1 → Yd own w1 lb 3 1 k (Y1 (Ze1 l x.calls)) v wr → Yd own w lb 3 1 k (Y1 (Ze1 l x.calls)) v wr) := Ydy (fun w1 k v wr ho h => h.down ho)
 have hmm := @run_makeMap Ydz
 clear hl hb hx hb' hr hca
 generalize hcs : x.calls = cs at *
 clear hcs x
 have HOV : Hid (Ze1 l cs = K6 l (atV cs cs.length) l.length) := Ydy rfl
 generalize hn : l.length = n at *
 have HN := Ydy hn
 clear hn
 go_enter Tryz.func40,Tryz.ntmps40
 go_wp2_with (first | (go_at_call 36; refine (HRT.out).mono ?_; rintro e w1 ⟨rfl,h1⟩; have H1 := Ydy h1; clear h1) | (go_at_call 39; refine (HCL.out _ (H1.out.alloc (.map #[] 0))).mono ?_; rintro e w2 ⟨a2,c2,rfl,hs,h2⟩; have HS := Ydy hs; have H2 := Ydy h2; clear h2 hs))
 have R0 : Hid (AtR w w2 cs w1.heap.size 0 w2) := Ydy ⟨(Zs.made w1).kept H2.out (fun h => h),(H1.out.alloc (.map #[] 0)).trans H2.out,H1.out.size,Yd0 _ _⟩
 clear H2 H1 HRT HCL
 generalize w1.heap.size = mb at *
 have HZ : Hid (∀ (k : Nat) (c : Qq),cs[k]? = some c → ∀ (W W' : World),AtR w w2 cs mb k W → Zb No W W' → Zs W' mb (kf (atV cs k)) (atV cs k).length ∧ (atV cs k).length < 1000000 ∧ ∀ w5,Zs w5 mb (upd (kf (atV cs k)) c.a (some (.int .i64 (k : Int)))) (if (kf (atV cs k) c.a).isSome then (atV cs k).length else (atV cs k).length + 1) → W'.mapTurned w5 mb → AtR w w2 cs mb (k + 1) w5) := Ydy (fun k c hc W W' hR hO => by
  obtain ⟨r1,r2,r3,r4⟩ := hR
  have hok := Ztk cs k
  have hk : k < cs.length := by
   rcases Yeo k cs.length with a | a
   ·exact a
   ·rw [Yd7 a] at hc; cases hc
  refine ⟨r1.kept hO (fun h => h),by omega,fun w5 h5 t5 => ⟨?_,?_,r3,?_⟩⟩
  ·rw [Ztj hc,Xk hok.1,← Kw]
   exact h5.eq (fun i _ => Zgw _ _ _ i)
  ·exact (r2.trans hO).then ((Yd0 (fun b => b = mb) W').turned t5 (.inl rfl)) (fun i hi e => by have e' : i = mb := e; omega)
  ·exact (r4.trans hO.no).trans ((Yd0 (fun b => b = mb) W').turned t5 (.inl rfl)))
 have HC : Hid (∀ (k : Nat) (c : Qq),cs[k]? = some c → ∀ (wr : World),AtR w w2 cs mb k wr → ∃ g,a2 = some ⟨g,0,none⟩ ∧ wr.cell? ⟨g,k * 5,none⟩ = some (.int .i64 c.t) ∧ wr.cell? ⟨g,k * 5 + 1,none⟩ = some (.int .i64 c.o) ∧ wr.cell? ⟨g,k * 5 + 2,none⟩ = some (.int .i64 c.f) ∧ wr.cell? ⟨g,k * 5 + 3,none⟩ = some (.int .i64 c.a) ∧ wr.cell? ⟨g,k * 5 + 4,none⟩ = some (.int .i64 c.r)) := Ydy (fun k c hc wr hR => by
  obtain ⟨g,e,q0,q1,q2,q3,q4⟩ := Vo HS.out hc
  have hg : g ≠ mb := R0.out.1.not_cell q0
  have hk : ∀ {j : Nat} {v : Value},w2.cell? ⟨g,j,none⟩ = some v → wr.cell? ⟨g,j,none⟩ = some v := fun h => Zd h hR.2.2.2 hg
  exact ⟨g,e,hk q0,hk q1,hk q2,hk q3,hk q4⟩)
 generalize hm : cs.length = nc at *
 have HM := Ydy hm
 clear hm hmm HS
 go_loopw [16] (fun i wr => ∃ k : Nat,k ≤ nc ∧ i = .int .i64 (k : Int) ∧ AtR w w2 cs mb k wr) (fun i _ => nc - (intOf i).toNat)
 case atStart => exact ⟨0,Yd2 _,rfl,R0.out⟩
 case round =>
  obtain ⟨k,hk,rfl,hR⟩ := hrel
  by_cases hlt : k < nc
  ·have hkb : decide ((k : Int) < (nc : Int)) = true := decide_eq_true (by omega)
   have hk0 : (0 : Int) ≤ (k : Int) := by omega
   have hk1 : (k : Int) < (nc : Int) := by omega
   have hkl : k < cs.length := by have := HM.out; omega
   obtain ⟨r,hr⟩ : ∃ r,cs[k]? = some r := ⟨_,Yd1 hkl⟩
   have hI := HCA.out r (Yd3 hr)
   obtain ⟨g,hga,q0,q1,q2,q3,q4⟩ := HC.out k r hr wr hR
   subst hga
   have hne1 : g ≠ wr.heap.size := Yed (Yd4 wr _ q0)
   obtain ⟨z1,z2,z3⟩ := HZ.out k r hr wr (wr.alloc (Zdy r)) hR ((Yd0 No wr).alloc _)
   have Z1 := Ydy z1
   have Z3 := Ydy z3
   unfold Zdy at Z1 Z3
   clear hkl hr hR z1 z3
   go_wp2_with (refine Y0 (by rfl) (t:=60) (by rfl) (e:=3) Yez (b:=mb) (by rfl) Z1.out z2 (k:=r.a) (val:=.int .i64 (k : Int)) (by rfl) (by rfl) hI ?_; intro w5 hm5 ht5; have R5 := Ydy (Z3.out w5 hm5 ht5); clear hm5 ht5)
   go_roundw
   case rel => exact ⟨k + 1,by omega,by go_num,R5.out⟩
   case measure => simp [intOf]; omega
  ·have hkn : k = nc := by omega
   subst hkn
   have hw1 := hR.2.1
   have HMP : Hid (∀ W,Zb No wr W → ∀ i : Int,I64 i → (Instr.lookup 60 (.map (some mb)) (.int .i64 i) false).run Ydz W = .ok (.int .i64 ((Zk (atV cs k) i).getD 0)) W) := Ydy (fun W hW i hi => by
    have := (hR.1.kept hW (fun h => h)).get (t:=60) (e:=3) Yez (Zjb W) hi
    rw [this,Zjw])
   have HW1 := Ydy hw1
   clear hR hw1 HZ HC R0 HCA HM hcl
   generalize atV cs k = M at *
   generalize hw3 : wr = w3 at *
   clear hw3 hlt hk
   have H0 : Hid (Yd own w3 lb 3 1 (K6 l M 0).length (Y1 (K6 l M 0)) (.slice none 0 0) w3) := Ydy (Yd.nil own w3 lb 3 1 (Yd0 _ _))
   go_wp2
   go_loopw [6,28] (fun v i wr => ∃ k : Nat,k ≤ n ∧ i = .int .i64 (k : Int) ∧ Yd own w3 lb 3 1 (K6 l M k).length (Y1 (K6 l M k)) v wr) (fun _ i _ => n - (intOf i).toNat)
   case atStart => exact ⟨0,Yd2 _,rfl,H0.out⟩
   case round =>
    obtain ⟨k,hk,rfl,hG⟩ := hrel
    by_cases hlt : k < n
    ·have hkb : decide ((k : Int) < (n : Int)) = true := decide_eq_true (by omega)
     have hk0 : (0 : Int) ≤ (k : Int) := by omega
     have hk1 : (k : Int) < (n : Int) := by omega
     have hkl : k < l.length := by have := HN.out; omega
     obtain ⟨r,hr⟩ : ∃ r,l[k]? = some r := ⟨_,Yd1 hkl⟩
     have ho := hG.only
     obtain ⟨g,hga,q0,q1,q2,q3,q4,q5,q6,q7⟩ := Zcu HL.out hr
     subst hga
     replace q0 := Zd (Zd q0 HW1.out (fun h => h)) ho (fun h => h)
     replace q1 := Zd (Zd q1 HW1.out (fun h => h)) ho (fun h => h)
     replace q2 := Zd (Zd q2 HW1.out (fun h => h)) ho (fun h => h)
     replace q3 := Zd (Zd q3 HW1.out (fun h => h)) ho (fun h => h)
     replace q4 := Zd (Zd q4 HW1.out (fun h => h)) ho (fun h => h)
     replace q5 := Zd (Zd q5 HW1.out (fun h => h)) ho (fun h => h)
     replace q6 := Zd (Zd q6 HW1.out (fun h => h)) ho (fun h => h)
     replace q7 := Zd (Zd q7 HW1.out (fun h => h)) ho (fun h => h)
     have hne1 : g ≠ wr.heap.size := Yed (Yd4 wr _ q0)
     have hro := (HB.out r (Yd3 hr)).1
     by_cases ha : r.a = 2
     ·have hab : (r.a == 2) = true := by rw [ha]; rfl
      have hob : decide (r.o < 0) = false := decide_eq_false (by omega)
      have E : Hid (K6 l M (k + 1) = K6 l M k ++ [(Zk M (k : Int)).getD 0]) := Ydy (Zvi hr ha hro)
      have hm : Hid ((K6 l M k).length ≤ 1000) := Ydy (by have := Zlp l M k; omega)
      have LK := HMP.out (wr.alloc (Kk r)) (ho.trans ((Yd0 No wr).alloc _)) (k : Int) ⟨by omega,by omega⟩
      obtain ⟨own',hA,hB⟩ := hG.app
      have HNN : Hid (∀ o1 o2,((wr.alloc o1).alloc o2).heap[wr.heap.size + 1]? = some o2) := Ydy (fun o1 o2 => by have := Zh (wr.alloc o1) o2; rwa [show (wr.alloc o1).heap.size = wr.heap.size + 1 from by simp] at this)
      have HA := Ydy hA
      have HB := Ydy hB
      unfold Kk at LK
      clear hkl hr ha hro hA hB ho hG
      generalize (Zk M (k : Int)).getD 0 = zz at *
      go_wp2_with (at_builtin; refine Xx (by rfl) _ _ _ (by rfl) Zd1 (by rfl) (HA.out _ (((Yd0 No wr).alloc (Kk r)).alloc _)) (B:=wr.heap.size + 1) (c:=1) (cs:=#[.int .i64 zz]) (tb:=3) (fr:=(0,0)) (by rfl) (HNN.out _ _) (by rfl) (by simp [Value.oneCell']) (Yen hm.out (by decide)) ?_; intro g4 cap4 w4 r4 hg4 hor hsz; have R4 := Ydy (HB.out _ _ _ _ _ (((Yd0 No wr).alloc (Kk r)).alloc _) r4 hg4 hor); clear r4 hg4 hor hsz)
      go_roundw
      case rel =>
       refine ⟨k + 1,by omega,by go_num,?_⟩
       rw [E.out,Yd6,Zc9]
       exact R4.out
      case measure => simp [intOf]; omega
     ·have hab : (r.a == 2) = false := beq_eq_false_iff_ne.2 ha
      have E : Hid (K6 l M (k + 1) = K6 l M k) := Ydy (Zyi hr ha)
      have HG := Ydy hG
      clear hkl hr ha hro ho hG
      go_wp2
      go_roundw
      case rel =>
       refine ⟨k + 1,by omega,by go_num,?_⟩
       rw [E.out]
       obtain ⟨own',e1,e2,e3,e4⟩ := HG.out
       exact ⟨own',e1,e2.kept (Ext.refl _ _) ((Yd0 No _).alloc (Kk r)) (fun _ _ _ h => h),e3.trans ((Yd0 No _).alloc (Kk r)),e4⟩
      case measure => simp [intOf]; omega
    ·have hkn : k = n := by omega
     subst hkn
     have HG := Ydy hG
     clear hG
     go_wp2
     go_ret
     refine ⟨_,rfl,HD.out w3 _ _ _ HW1.out ?_⟩
     rw [HOV.out]
     exact HG.out
theorem Zcr {a : Option Addr} {l : List Int} (h : Yy w a (Y1 l)) {k : Nat} (hr : l[k]? = some z) : ∃ g,a = some ⟨g,0,none⟩ ∧ w.cell? ⟨g,k,none⟩ = some (.int .i64 z) :=
 h k _ (by unfold Y1; rw [Yek,hr]; rfl)
theorem Zq8 {a : Option Addr} {c c2 : Nat} (l : List Int) (h1 : Yy w a (Y1 l)) (h2 : Yy w a2 (Y1 l)) (hlen : l.length ≤ 1000) :
  Calls Ydz 17 #[.slice a l.length c,.slice a2 l.length c2] w fun e w' => e = .returned (.bool true) ∧ Zb No w w' := by
 have HA := Ydy h1
 have HB := Ydy h2
 clear h1 h2
 generalize hn : l.length = n at *
 have HN := Ydy hn
 clear hn
 go_enter Tryz.func17,Tryz.ntmps17
 go_wp2
 go_loopw [5] (fun i wr => ∃ k : Nat,k ≤ n ∧ i = .int .i64 (k : Int) ∧ Zb No w wr) (fun i _ => n - (intOf i).toNat)
 case atStart => exact ⟨0,Yd2 _,rfl,Yd0 No w⟩
 case round =>
  obtain ⟨k,hk,rfl,ho⟩ := hrel
  by_cases hlt : k < n
  ·have hkb : decide ((k : Int) < (n : Int)) = true := decide_eq_true (by omega)
   have hk0 : (0 : Int) ≤ (k : Int) := by omega
   have hk1 : (k : Int) < (n : Int) := by omega
   have hkl : k < l.length := by have := HN.out; omega
   obtain ⟨z,hr⟩ : ∃ r,l[k]? = some r := ⟨_,Yd1 hkl⟩
   obtain ⟨g,hga,q0⟩ := Zcr HA.out hr
   obtain ⟨g',hga',p0⟩ := Zcr HB.out hr
   subst hga
   subst hga'
   replace q0 := Zd q0 ho (fun h => h)
   replace p0 := Zd p0 ho (fun h => h)
   have HO := Ydy (ho.drew)
   clear hkl hr ho
   go_wp2
   go_region_held3 (fun w' => w'.cell? ⟨g,k,none⟩ = some (.int .i64 z) ∧ w'.cell? ⟨g',k,none⟩ = some (.int .i64 z)) (go_keep) (fail)
   go_wp2
   go_roundw
   case rel => exact ⟨k + 1,by omega,by go_num,HO.out⟩
   case measure => simp [intOf]; omega
  ·have hkn : k = n := by omega
   subst hkn
   have HO := Ydy ho
   clear ho
   go_wp2
   go_ret
   exact ⟨rfl,HO.out⟩
theorem Ycm (i : Int) (h0 : 0 ≤ i) (h1 : i ≤ 255) (w : World) : (Instr.index 9 (.string Lib.len8tab) (.int .u8 i)).run Ydz w = .ok (.int .u8 (Lib.bitLen i.toNat : Nat)) w := by
 rw [Lib.run_index_len8tab w 9 .u8 i Tryz.underlying9 h0 h1,Lib.len8_of i h0 h1]
theorem Yas (w : World) : (Instr.index 9 (.string Lib.len8tab) (.int .u8 0)).run Ydz w = .ok (.int .u8 0) w := by
 have := Ycm 0 (by decide) (by decide) w
 rwa [show (Lib.bitLen (0 : Int).toNat : Nat) = 0 from by decide +kernel] at this
theorem Yat (w : World) : (Instr.index 9 (.string Lib.len8tab) (.int .u8 1)).run Ydz w = .ok (.int .u8 1) w := by
 have := Ycm 1 (by decide) (by decide) w
 rwa [show (Lib.bitLen (1 : Int).toNat : Nat) = 1 from by decide +kernel] at this
theorem Zx5 (w : World) : Calls Ydz 176 #[.int .u64 0] w fun e w' => e = .returned (.int .i64 0) ∧ w = w' := by
 have hi := Yas
 go_enter Tryz.func176,Tryz.ntmps176
 go_name_bytes LT hLT
 have eLT : LT = Lib.len8tab := by rw [← hLT]; decide +kernel
 subst eLT
 clear hLT
 go_wp2
 go_ret
 exact ⟨rfl,rfl⟩
theorem Zx6 (w : World) : Calls Ydz 176 #[.int .u64 1] w fun e w' => e = .returned (.int .i64 1) ∧ w = w' := by
 have hi := Yat
 go_enter Tryz.func176,Tryz.ntmps176
 go_name_bytes LT hLT
 have eLT : LT = Lib.len8tab := by rw [← hLT]; decide +kernel
 subst eLT
 clear hLT
 go_wp2
 go_ret
 exact ⟨rfl,rfl⟩
theorem Zto (hz : z = 0 ∨ z = 1) (w : World) : Calls Ydz 123 #[.int .u64 z] w fun e w' => e = .returned (.int .i64 z) ∧ w = w' := by
 have HL : Hid (∀ W,Calls Ydz 176 #[.int .u64 z] W fun e w' => e = .returned (.int .i64 z) ∧ W = w') := Ydy (fun W => by
  rcases hz with rfl | rfl
  ·exact Zx5 W
  ·exact Zx6 W)
 clear hz
 go_enter Tryz.func123,Tryz.ntmps123
 go_wp2_with (go_at_call 176; refine (HL.out _).mono ?_; rintro e w1 ⟨rfl,rfl⟩)
 go_ret
 exact ⟨rfl,rfl⟩
theorem Znn {a : Option Addr} {n c : Nat} (hn : n ≤ 1) (w : World) : Calls Ydz 167 #[.slice a n c,.int .i64 0,.int .i64 (n : Int),f] w fun e w' => e = .returned (.tuple #[]) ∧ w = w' := by
 have hn1 : ¬ ((1 : Int) < (n : Int)) := by omega
 have hd : decide (1 < n) = false := decide_eq_false (by omega)
 go_enter Tryz.func167,Tryz.ntmps167
 go_wp2
 refine wp_loop_rounds 1 ?_
 rw [rounds_succ]
 go_wp2
 go_end0
 exact ⟨rfl,rfl⟩
theorem Zyl {a : Option Addr} {n c : Nat} (hn : n ≤ 1) (l : Int) (w : World) : Calls Ydz 122 #[.slice a n c,.int .i64 0,.int .i64 (n : Int),.int .i64 l,f] w fun e w' => e = .returned (.tuple #[]) ∧ w = w' := by
 have HI := Ydy (fun W => Znn (a:=a) (c:=c) (f:=f) hn W)
 have hd : decide (n ≤ 12) = true := decide_eq_true (by omega)
 have hw : IntKind.i64.wrap ((n : Int) - 0) = (n : Int) := by rw [Int.sub_zero]; exact IntWalk.i64_in _ (by omega)
 go_enter Tryz.func122,Tryz.ntmps122
 go_wp2
 refine wp_loop_rounds 1 ?_
 rw [rounds_succ]
 go_wp2_with (go_at_call 167; refine (HI.out _).mono ?_; rintro e w1 ⟨rfl,rfl⟩)
 refine bodyPost_ret (v:=.tuple #[]) (by simp [results,Tryz.results122,go_sem]) rfl ?_
 exact ⟨rfl,rfl⟩
theorem Zl0 {a : Option Addr} {n c : Nat} (hn : n ≤ 1) (w : World) : Calls Ydz 77 #[.slice a n c,f] w fun e w' => e = .returned (.tuple #[]) ∧ w = w' := by
 have HP := Ydy (fun W => Zyl (a:=a) (c:=c) (f:=f) hn (n : Int) W)
 have HB := Ydy (fun W => Zto (z:=(n : Int)) (by omega) W)
 go_enter Tryz.func77,Tryz.ntmps77
 go_wp2_with (first | (go_at_call 123; refine (HB.out _).mono ?_; rintro e w1 ⟨rfl,rfl⟩) | (go_at_call 122; refine (HP.out _).mono ?_; rintro e w1 ⟨rfl,rfl⟩))
 go_end0
 exact ⟨rfl,rfl⟩
def V7 (e : Ent) : List Value := [.int .i64 e.k,.int .i64 e.v,.int .i64 e.w,.int .i64 e.n]
def fl (C : List Chn) : List Ent := C.flatMap (fun c => c.map (·.2))
def Zb4 (w : World) (a : Option Addr) (C : List Chn) : Prop := ∀ (i : Nat) (c : Chn),C[i]? = some c → ∃ ad,a = some ad ∧ w.cell? (ad.add i) = some (Ym c) ∧ Y5 w c
theorem Y5.no {c : Chn} (h : Y5 w c) (ho : Zb No w w') : Y5 w' c := h.same fun b _ hm => by
 have := h.block_lt hm
 exact ho.block b this (fun h => h)
theorem Zb4.no {a : Option Addr} (h : Zb4 w a C) (ho : Zb No w w') : Zb4 w' a C := fun i c hc => by
 obtain ⟨ad,h1,h2,h3⟩ := h i c hc
 exact ⟨ad,h1,Zd h2 ho (fun h => h),h3.no ho⟩
theorem Zxu {c : Chn} (h : C[i]? = some c) : fl (C.take (i + 1)) = fl (C.take i) ++ c.map (·.2) := by
 unfold fl
 rw [Yel,h]
 simp
theorem Yap (C : List Chn) (i : Nat) : fl (C.take i) <+: fl C := by
 refine ⟨fl (C.drop i),?_⟩
 unfold fl
 rw [← Yeu,Yet]
def Zak (CC : List (List Chn)) (k : Nat) : List Ent := (CC.take k).flatMap fl
theorem Zrp {CC : List (List Chn)} {k : Nat} (h : CC[k]? = some C) : Zak CC (k + 1) = Zak CC k ++ fl C := by
 unfold Zak
 rw [Yel,h]
 simp
theorem Zvr (CC : List (List Chn)) (k : Nat) : Zak CC k <+: CC.flatMap fl := by
 refine ⟨(CC.drop k).flatMap fl,?_⟩
 unfold Zak
 rw [← Yeu,Yet]
theorem Zqs (l : List Ent) (e : Ent) : (l ++ [e]).flatMap V7 = l.flatMap V7 ++ V7 e := by simp
theorem Zom (own : Nat → Nat) (lb : Nat) {a0 a1 : Option Addr} {k0 k1 : Nat} {os : Value} {mv : Int} {C0 C1 : List Chn} (c1 : w.cell? ⟨x,1,none⟩ = some (.slice a0 C0.length k0)) (c2 : w.cell? ⟨x,2,none⟩ = some os) (c3 : w.cell? ⟨x,3,none⟩ = some (.int .i64 mv)) (hs : ∀ W,(Instr.slice 184 os (some (.int .i64 mv)) none none).run Ydz W = .ok (.slice a1 C1.length k1) W) (h0 : Zb4 w a0 C0) (h1 : Zb4 w a1 C1) (hl0 : C0.length ≤ 100000) (hl1 : C1.length ≤ 100000) (hf : ([C0,C1].flatMap fl).length ≤ 1) :
  Calls Ydz 76 #[Pt x] w fun e w' => ∃ u,e = .returned u ∧ Yd own w lb 115 4 ([C0,C1].flatMap fl).length (([C0,C1].flatMap fl).flatMap V7) u w' := by
 have HOB : Hid (Zb No w (w.alloc (.cells #[.slice a0 C0.length k0,.slice a1 C1.length k1] 184)).drew) := Ydy (((Yd0 No w).alloc _).drew)
 have HB : Hid ((w.alloc (.cells #[.slice a0 C0.length k0,.slice a1 C1.length k1] 184)).drew.heap[w.heap.size]? = some (.cells #[.slice a0 C0.length k0,.slice a1 C1.length k1] 184)) := Ydy (Zas (Zh w _))
 have HR : Hid (∀ k,k < 2 → ∃ a kk C,[C0,C1][k]? = some C ∧ (w.alloc (.cells #[.slice a0 C0.length k0,.slice a1 C1.length k1] 184)).drew.cell? ⟨w.heap.size,k,none⟩ = some (.slice a C.length kk) ∧ Zb4 (w.alloc (.cells #[.slice a0 C0.length k0,.slice a1 C1.length k1] 184)).drew a C ∧ C.length ≤ 100000) := Ydy (fun k hk => by
  match k,hk with
  | 0,_ => exact ⟨a0,k0,C0,rfl,Za HB.out rfl,h0.no HOB.out,hl0⟩
  | 1,_ => exact ⟨a1,k1,C1,rfl,Za HB.out rfl,h1.no HOB.out,hl1⟩)
 have SO : Hid (∀ (a : Option Addr) (n c : Nat),n ≤ 1 → ∀ W,Calls Ydz 77 #[.slice a n c,.func (.func 121) #[] #[]] W fun e w' => e = .returned (.tuple #[]) ∧ W = w') := Ydy (fun a n c hn W => Zl0 hn W)
 have HD : Hid (∀ w1 k xs v wr,Zb No w w1 → Yd own w1 lb 115 4 k xs v wr → Yd own w lb 115 4 k xs v wr) := Ydy (fun w1 k xs v wr ho h => h.down ho)
 have HF := Ydy hf
 clear h0 h1 hf hl0 hl1 HB
 generalize hCC : [C0,C1] = CC at *
 have HCC : Hid (CC.length = 2) := Ydy (by rw [← hCC]; rfl)
 clear hCC
 generalize hnn : (CC.flatMap fl).length = nn at *
 have HNN := Ydy hnn
 clear hnn
 generalize C0.length = m0 at *
 generalize C1.length = m1 at *
 go_enter Tryz.func76,Tryz.ntmps76
 go_wp2
 go_region_held3 (fun w' => w'.cell? ⟨x,1,none⟩ = some (.slice a0 m0 k0) ∧ w'.cell? ⟨x,2,none⟩ = some os ∧ w'.cell? ⟨x,3,none⟩ = some (.int .i64 mv)) (go_keep) (fail)
 go_wp2
 generalize hB : w.heap.size = B at *
 generalize hw1 : (w.alloc (.cells #[.slice a0 m0 k0,.slice a1 m1 k1] 184)).drew = w1 at *
 clear hw1 hs c1 c2 c3 hB
 have H0 : Hid (Yd own w1 lb 115 4 (Zak CC 0).length ((Zak CC 0).flatMap V7) (.slice none 0 0) w1) := Ydy (Yd.nil own w1 lb 115 4 (Yd0 _ _))
 go_loopw [3,23] (fun v i wr => ∃ k : Nat,k ≤ 2 ∧ i = .int .i64 (k : Int) ∧ Yd own w1 lb 115 4 (Zak CC k).length ((Zak CC k).flatMap V7) v wr) (fun _ i _ => 2 - (intOf i).toNat)
 case atStart => exact ⟨0,Yd2 _,rfl,H0.out⟩
 case round =>
  obtain ⟨k,hk,rfl,hG⟩ := hrel
  by_cases hlt : k < 2
  ·have hkb : decide ((k : Int) < 2) = true := decide_eq_true (by omega)
   have hk0 : (0 : Int) ≤ (k : Int) := by omega
   have hk1 : (k : Int) < 2 := by omega
   obtain ⟨a,kk,C,hCk,hcell,hRW,hCl⟩ := HR.out k hlt
   replace hcell := Zd hcell hG.only (fun h => h)
   have HRW := Ydy hRW
   have HN : Hid (Zak CC (k + 1) = Zak CC k ++ fl C) := Ydy (Zrp hCk)
   have HPR : Hid (Zak CC k ++ fl C <+: CC.flatMap fl) := Ydy (by rw [← HN.out]; exact Zvr CC (k + 1))
   have G0 : Hid (Yd own w1 lb 115 4 (Zak CC k ++ fl (C.take 0)).length ((Zak CC k ++ fl (C.take 0)).flatMap V7) u3 wr) := Ydy (by
    have e : Zak CC k ++ fl (C.take 0) = Zak CC k := by rw [List.take_zero]; exact Yer _
    rw [e]; exact hG)
   have HCM : Hid (C.length = C.length) := Ydy rfl
   clear hG hCk hRW
   generalize Zak CC k = P at *
   generalize hmC : C.length = mc at *
   have HMC := Ydy hmC
   clear hmC HCM
   go_wp2
   go_loopw [3,29] (fun v i wr => ∃ j : Nat,j ≤ mc ∧ i = .int .i64 (j : Int) ∧ Yd own w1 lb 115 4 (P ++ fl (C.take j)).length ((P ++ fl (C.take j)).flatMap V7) v wr) (fun _ i _ => mc - (intOf i).toNat)
   case atStart => exact ⟨0,Yd2 _,rfl,G0.out⟩
   case round =>
    obtain ⟨j,hj,rfl,hG⟩ := hrel
    by_cases hlt2 : j < mc
    ·have hjb : decide ((j : Int) < (mc : Int)) = true := decide_eq_true (by omega)
     have hj0 : (0 : Int) ≤ (j : Int) := by omega
     have hj1 : (j : Int) < (mc : Int) := by omega
     have hjl : j < C.length := by have := HMC.out; omega
     obtain ⟨c,hc⟩ : ∃ c,C[j]? = some c := ⟨_,Yd1 hjl⟩
     obtain ⟨ad,rfl,hcj,hLk⟩ := HRW.out j c hc
     replace hcj := Zd hcj hG.only (fun h => h)
     have HLK := Ydy hLk
     have HT : Hid (fl (C.take (j + 1)) = fl (C.take j) ++ c.map (·.2)) := Ydy (Zxu hc)
     have HPR2 : Hid (P ++ fl (C.take j) ++ c.map (·.2) <+: CC.flatMap fl) := Ydy (by
      rw [Yey,← HT.out]
      refine List.IsPrefix.trans ?_ HPR.out
      exact (Yee P).2 (Yap C (j + 1)))
     have HG := Ydy hG
     clear hG hc hjl hLk
     generalize fl (C.take j) = D at *
     go_wp2
     go_loopg [3,7] c.length (fun g v p wr => ∃ pre rest : Chn,c = pre ++ rest ∧ p = Ym rest ∧ g = rest.length ∧ Yd own w1 lb 115 4 (P ++ D ++ pre.map (·.2)).length ((P ++ D ++ pre.map (·.2)).flatMap V7) v wr)
     case atStart => exact ⟨[],c,rfl,rfl,rfl,by rw [List.map_nil,Yer]; exact HG.out⟩
     case round =>
      obtain ⟨pre,rest,hcp,rfl,hg,hG⟩ := hrel
      have HCP := Ydy hcp
      have HGK := Ydy hg
      clear hg
      cases rest with
      | nil =>
       have G1 : Hid (Yd own w1 lb 115 4 (P ++ fl (C.take (j + 1))).length ((P ++ fl (C.take (j + 1))).flatMap V7) u3 wr) := Ydy (by
        rw [HT.out,← Yey,HCP.out,Yer]
        exact hG)
       rw [show Ym ([] : Chn) = .pointer none from rfl]
       clear hG hcp
       go_wp2
       go_roundw
       case rel => exact ⟨j + 1,by omega,by go_num,G1.out⟩
       case measure => simp [intOf]; omega
      | cons q rest =>
       obtain ⟨b,e⟩ := q
       have hb := Y5.at_ pre (by rw [← HCP.out]; exact HLK.out)
       have hb' : wr.heap[b]? = some (Kp e (Ym rest)) := (hG.only).kept hb (fun h => h)
       have e0 : wr.cell? ⟨b,0,none⟩ = some (.int .i64 e.k) := Za hb' rfl
       have e1 : wr.cell? ⟨b,1,none⟩ = some (.int .i64 e.v) := Za hb' rfl
       have e2 : wr.cell? ⟨b,2,none⟩ = some (.int .i64 e.w) := Za hb' rfl
       have e3 : wr.cell? ⟨b,3,none⟩ = some (.int .i64 e.n) := Za hb' rfl
       have HLN : Hid ((P ++ D ++ pre.map (·.2)).length ≤ 1) := Ydy (by
        refine Yen (List.IsPrefix.length_le (List.IsPrefix.trans ?_ HPR2.out)) (by rw [HNN.out]; exact HF.out)
        rw [HCP.out,List.map_append]
        exact (Yee (P ++ D)).2 (List.prefix_append _ _))
       have HMO : Hid ((P ++ D ++ (pre ++ [(b,e)]).map (·.2)) = (P ++ D ++ pre.map (·.2)) ++ [e]) := Ydy (by simp)
       have HNX : Hid (c = (pre ++ [(b,e)]) ++ rest) := Ydy (by rw [HCP.out]; simp)
       have HM : Hid (rest.length < gk) := Ydy (by have := HGK.out; simp only [List.length_cons] at this; omega)
       have e4 : ∀ w4 : World,Zb No w1 w4 → w4.cell? ⟨b,4,none⟩ = some (Ym rest) := fun w4 h => Za (h.kept hb (fun h => h)) rfl
       have HE4 := Ydy e4
       obtain ⟨own',hA,hB⟩ := hG.app
       have HA := Ydy hA
       have HB := Ydy hB
       have HGO := Ydy hG.only
       rw [show Ym ((b,e) :: rest) = Pt b from rfl]
       clear hG hb hb' hA hB hcp e4
       generalize (P ++ D ++ pre.map (·.2)) = XS at *
       go_wp2_with (at_builtin; refine Xx (by rfl) _ _ _ (by rfl) Zo4 (by rfl) (HA.out _ ((Yd0 No wr).alloc _)) (B:=wr.heap.size) (c:=1) (cs:=#[.int .i64 e.k,.int .i64 e.v,.int .i64 e.w,.int .i64 e.n]) (tb:=115) (fr:=(0,0)) (by rfl) (Zh _ _) (by rfl) (by simp [Value.oneCell']) (Yen HLN.out (by decide)) ?_; intro g4 cap4 w4 r4 hg4 hor hsz; have R4 := Ydy (HB.out _ _ _ _ _ ((Yd0 No wr).alloc _) r4 hg4 hor); have z4 := HE4.out _ R4.out.only; clear r4 hg4 hor hsz)
       go_roundg rest.length
       case rel => exact ⟨pre ++ [(b,e)],rest,HNX.out,rfl,rfl,by rw [HMO.out,Yd6,Zqs]; exact R4.out⟩
       case measure => exact HM.out
    ·have hjn : j = mc := by omega
     subst hjn
     have G1 : Hid (Yd own w1 lb 115 4 (Zak CC (k + 1)).length ((Zak CC (k + 1)).flatMap V7) u3 wr) := Ydy (by
      have e : C.take j = C := by rw [← HMC.out]; exact Yem
      rw [e] at hG
      rw [HN.out]
      exact hG)
     clear hG
     go_wp2
     go_roundw
     case rel => exact ⟨k + 1,by omega,by go_num,G1.out⟩
     case measure => simp [intOf]; omega
  ·have hkn : k = 2 := by omega
   subst hkn
   have e2 : Zak CC 2 = CC.flatMap fl := by unfold Zak; rw [← HCC.out,Yem]
   rw [e2,HNN.out] at hG
   obtain ⟨a5,c5,hv5,_⟩ := hG.src
   subst hv5
   have HG := Ydy hG
   have S1 := Ydy (SO.out a5 _ c5 HF.out wr)
   clear hG e2
   go_wp2_with (go_at_call 77; refine (S1.out).mono ?_; rintro e w5 ⟨rfl,rfl⟩)
   go_ret
   exact ⟨_,rfl,HD.out w1 _ _ _ _ HOB.out HG.out⟩
theorem Zng : ∀ (C : List Chn) (i0 : Nat),(∀ (i : Nat) (c : Chn),C[i]? = some c → c ≠ [] → i = i0 ∧ c.length ≤ 1) → (fl C).length ≤ 1
 | [],_,_ => Yd2 _
 | c :: C,i0,h => by
  have e : fl (c :: C) = c.map (·.2) ++ fl C := by unfold fl; simp
  rw [e,Yd6,List.length_map]
  cases c with
  | nil =>
   have := Zng C (i0 - 1) (fun i c hc hne => by
    have := h (i + 1) c (by simpa using hc) hne
    omega)
   simp only [Yes]
   omega
  | cons l c =>
   have h0 := h 0 (l :: c) rfl (by simp)
   have hz : (fl C).length = 0 := by
    have : fl C = [] := by
     unfold fl
     rw [Yeq]
     intro c' hm
     obtain ⟨i,hi⟩ := Yd5.1 hm
     cases c' with
     | nil => rfl
     | cons l' c' =>
      have := h (i + 1) (l' :: c') (by simpa using hi) (by simp)
      omega
    rw [this]; rfl
   omega
theorem Zo6 (C : List Chn) (h : ∀ (i : Nat) (c : Chn),C[i]? = some c → c = []) : fl C = [] := by
 unfold fl
 rw [Yeq]
 intro c' hm
 obtain ⟨i,hi⟩ := Yd5.1 hm
 rw [h i c' hi]
 rfl
theorem Zwg (a : Option Addr) (M mv : Nat) (h : mv ≤ M) (h0 : a = none → M = 0) : ∃ a1,(∀ W,(Instr.slice 184 (.slice a M M) (some (.int .i64 (mv : Int))) none none).run Ydz W = .ok (.slice a1 (M - mv) (M - mv)) W) ∧ (mv < M → ∃ ad,a = some ad ∧ a1 = some (ad.add mv)) := by
 have hr := fun W => run_slice_l (P:=Ydz) W 184 a M M (by rw [show Ydz.elem 184 = 224 from by kernel_rfl]; exact Tryz.underlying184) .i64 (mv : Int) (by omega) (by omega)
 have hs : ∀ W,(sizeOf (Ydz.elem 184)).run Ydz W = .ok 1 W := fun W => by kernel_rfl
 simp only [hs,Result.andThen,Int.toNat_natCast] at hr
 cases a with
 | none =>
  have := h0 rfl
  refine ⟨none,fun W => ?_,fun h => by omega⟩
  rw [hr]
  simp [sliced]
 | some ad =>
  by_cases hm : mv < M
  ·refine ⟨some (ad.add mv),fun W => ?_,fun _ => ⟨ad,rfl,rfl⟩⟩
   rw [hr]
   have : M ≠ mv := by omega
   simp [sliced,this]
  ·have e : M = mv := by omega
   subst e
   refine ⟨some ad,fun W => ?_,fun h => by omega⟩
   rw [hr]
   simp [sliced]
theorem Zpl {c : Chn} {k : Int} (h1 : ∀ l ∈ c,l.2.k = k) (h2 : (c.map fun l => l.2.k).Nodup) : c.length ≤ 1 := by
 match c,h1,h2 with
 | [],_,_ => exact Yd2 _
 | [_],_,_ => exact Yea _
 | a :: b :: r,h1,h2 =>
  simp only [List.map_cons,List.nodup_cons,List.mem_cons] at h2
  exact absurd (.inl ((h1 a (by simp)).trans (h1 b (by simp)).symm)) h2.1
theorem Yc6 {seed : Int} {ent : Int → Option Ent} {t : Tb} (h : Xd own w lb x seed ent t) (he : ∀ k,ent k = if k = e0.k then some e0 else none) (own2 : Nat → Nat) (lb2 : Nat) :
  Calls Ydz 76 #[Pt x] w fun e w' => ∃ u,e = .returned u ∧ Yd own2 w lb2 115 4 1 (V7 e0) u w' := by
 obtain ⟨hl1,hl2⟩ := h.oldLen
 have hln := h.len
 have e0s : ent e0.k = some e0 := by rw [he,if_pos rfl]
 have only : ∀ e,ent e.k = some e → e = e0 := fun e hh => by
  rw [he] at hh
  split at hh
  ·cases hh; rfl
  ·cases hh
 have nN : ∀ i c,t.new[i]? = some c → c ≠ [] → t.place seed e0.k = (false,i) ∧ c.length ≤ 1 ∧ ∀ l ∈ c,l.2 = e0 := fun i c hc hne => by
  have q := h.chN i c hc
  have al : ∀ l ∈ c,l.2 = e0 := fun l hm => only _ (q.mem l.1 l.2 hm).2.2
  obtain ⟨l,r,rfl⟩ := Yei hne
  refine ⟨?_,Zpl (k:=e0.k) (fun l' hm => by rw [al l' hm]) q.once,al⟩
  have := (q.mem l.1 l.2 (by simp)).2.1
  rw [al l (by simp)] at this
  exact this
 have nO : ∀ i c,t.moved ≤ i → t.old[i]? = some c → c ≠ [] → t.place seed e0.k = (true,i) ∧ c.length ≤ 1 ∧ ∀ l ∈ c,l.2 = e0 := fun i c hi hc hne => by
  have q := h.chO i c hi hc
  have al : ∀ l ∈ c,l.2 = e0 := fun l hm => only _ (q.mem l.1 l.2 hm).2.2
  obtain ⟨l,r,rfl⟩ := Yei hne
  refine ⟨?_,Zpl (k:=e0.k) (fun l' hm => by rw [al l' hm]) q.once,al⟩
  have := (q.mem l.1 l.2 (by simp)).2.1
  rw [al l (by simp)] at this
  exact this
 have dropGet : ∀ (i : Nat) (c : Chn),(t.old.drop t.moved)[i]? = some c → t.old[t.moved + i]? = some c := fun i c hc => by rw [Yev] at hc; exact hc
 have hflat : [t.new,t.old.drop t.moved].flatMap fl = fl t.new ++ fl (t.old.drop t.moved) := by simp
 have hF : [t.new,t.old.drop t.moved].flatMap fl = [e0] := by
  have all0 : ∀ e ∈ [t.new,t.old.drop t.moved].flatMap fl,e = e0 := fun e hm => by
   rw [hflat] at hm
   rcases List.mem_append.1 hm with hm | hm
   ·unfold fl at hm
    obtain ⟨c,hc,hm⟩ := Yec.1 hm
    obtain ⟨i,hi⟩ := Yd5.1 hc
    obtain ⟨l,hl,rfl⟩ := Yeb.1 hm
    exact (nN i c hi (Yew hl)).2.2 l hl
   ·unfold fl at hm
    obtain ⟨c,hc,hm⟩ := Yec.1 hm
    obtain ⟨i,hi⟩ := Yd5.1 hc
    obtain ⟨l,hl,rfl⟩ := Yeb.1 hm
    exact (nO _ c (Yd8 _ _) (dropGet i c hi) (Yew hl)).2.2 l hl
  have some0 : e0 ∈ [t.new,t.old.drop t.moved].flatMap fl := by
   obtain ⟨_,c,b,hc,hm⟩ := h.all e0.k e0 e0s
   rw [hflat]
   unfold Tb.at_ at hc
   unfold Tb.place at hc
   split at hc
   ·rename_i hp
    refine List.mem_append_right _ ?_
    have hc' : t.old[Ye (Yf seed e0.k) 0 t.old.length]? = some c := hc
    refine Yec.2 ⟨c,Yd5.2 ⟨Ye (Yf seed e0.k) 0 t.old.length - t.moved,?_⟩,Yeb.2 ⟨_,hm,rfl⟩⟩
    rw [Yev,show t.moved + (Ye (Yf seed e0.k) 0 t.old.length - t.moved) = Ye (Yf seed e0.k) 0 t.old.length from by omega]
    exact hc'
   ·refine List.mem_append_left _ ?_
    have hc' : t.new[Ye (Yf seed e0.k) 0 t.new.length]? = some c := hc
    exact Yec.2 ⟨c,Yd5.2 ⟨_,hc'⟩,Yeb.2 ⟨_,hm,rfl⟩⟩
  have few : ([t.new,t.old.drop t.moved].flatMap fl).length ≤ 1 := by
   rw [hflat,Yd6]
   cases hp : (t.place seed e0.k).1 with
   | false =>
    have z : fl (t.old.drop t.moved) = [] := Zo6 _ (fun i c hc => by
     by_cases hne : c = []
     ·exact hne
     ·have := (nO _ c (Yd8 _ _) (dropGet i c hc) hne).1
      rw [this] at hp; cases hp)
    have := Zng t.new (t.place seed e0.k).2 (fun i c hc hne => by
     have q := nN i c hc hne
     exact ⟨by rw [q.1],q.2.1⟩)
    rw [z]
    simp only [Yes]
    omega
   | true =>
    have z : fl t.new = [] := Zo6 _ (fun i c hc => by
     by_cases hne : c = []
     ·exact hne
     ·have := (nN i c hc hne).1
      rw [this] at hp; cases hp)
    have := Zng (t.old.drop t.moved) ((t.place seed e0.k).2 - t.moved) (fun i c hc hne => by
     have q := nO _ c (Yd8 _ _) (dropGet i c hc) hne
     exact ⟨by rw [q.1]; simp,q.2.1⟩)
    rw [z]
    simp only [Yes]
    omega
  match hL : [t.new,t.old.drop t.moved].flatMap fl,all0,some0,few with
  | [],_,some0,_ => exact nomatch some0
  | [a],all0,_,_ => rw [all0 a (by simp)]
  | a :: b :: r,_,_,few => simp at few
 have c1 : w.cell? ⟨x,1,none⟩ = some (Sl t.rb t.new.length) := Za h.block rfl
 have c2 : w.cell? ⟨x,2,none⟩ = some t.os := Za h.block rfl
 have c3 : w.cell? ⟨x,3,none⟩ = some (.int .i64 (t.moved : Int)) := Za h.block rfl
 have h0 : Zb4 w (some ⟨t.rb,0,none⟩) t.new := fun i c hc => ⟨_,rfl,by
  rw [Qs,Yex]
  refine Za h.rows ?_
  simp [hc],(h.chN i c hc).links⟩
 have hdl : (t.old.drop t.moved).length = t.old.length - t.moved := List.length_drop
 obtain ⟨os,hos⟩ : ∃ a,t.os = .slice a t.old.length t.old.length ∧ (a = none → t.old.length = 0) ∧ ∀ i c,t.moved ≤ i → t.old[i]? = some c → ∃ b,a = some ⟨b,0,none⟩ ∧ w.cell? ⟨b,i,none⟩ = some (Ym c) := by
  rcases h.oldOk with ⟨ho,hv⟩ | ⟨b,arr,hv,_,hb,_,har⟩
  ·exact ⟨none,by rw [hv,ho]; rfl,fun _ => by rw [ho]; rfl,fun i c _ hc => by rw [ho] at hc; simp at hc⟩
  ·exact ⟨some ⟨b,0,none⟩,hv,fun e => (nomatch e),fun i c hi hc => ⟨b,rfl,Za hb (har i c hi hc)⟩⟩
 obtain ⟨hos1,hos2,hos3⟩ := hos
 obtain ⟨a1,hs,ha1⟩ := Zwg os t.old.length t.moved hl2 hos2
 rw [hos1] at c2
 have h1 : Zb4 w a1 (t.old.drop t.moved) := fun i c hc => by
  have hc' := dropGet i c hc
  have hlt : t.moved + i < t.old.length := by
   rcases Yeo (t.moved + i) t.old.length with a | a
   ·exact a
   ·rw [Yd7 a] at hc'; cases hc'
  obtain ⟨ad,e1,e2⟩ := ha1 (by omega)
  obtain ⟨b,e3,e4⟩ := hos3 (t.moved + i) c (Yd8 _ _) hc'
  rw [e1] at e3
  cases e3
  refine ⟨_,e2,?_,(h.chO _ c (Yd8 _ _) hc').links⟩
  rw [Qs,Qs,Yex]
  exact e4
 have Z := Zom own2 lb2 c1 c2 c3 (C0:=t.new) (C1:=t.old.drop t.moved) (a1:=a1) (k1:=t.old.length - t.moved) (fun W => by rw [hdl]; exact hs W) h0 h1 (by omega) (by rw [hdl]; omega) (by rw [hF]; exact Yea _)
 rw [hF] at Z
 refine Z.mono fun e w' q => ?_
 obtain ⟨u,q1,q2⟩ := q
 have e1 : ([e0].flatMap V7) = V7 e0 := by simp
 rw [e1] at q2
 exact ⟨u,q1,q2⟩
theorem Yd.appS {e size k : Nat} (h : Yd own w lb e size k xs v wr) : ∃ own',(∀ W,Zb No wr W → Row own' lb W e size v k xs) ∧ ∀ W w4 v' own4 k' xs',Zb No wr W → Row own4 lb w4 e size v' k' xs' → Ext W own' own4 → Zb (fun b => v.ownBlock = some b) W w4 → (∀ b,v'.ownBlock = some b → v.ownBlock = some b ∨ W.heap.size ≤ b) → Yd own w lb e size k' xs' v' w4 := by
 obtain ⟨own',h1,h2,h3,h4⟩ := h
 refine ⟨own',fun W hW => h2.kept (Ext.refl _ _) hW (fun _ _ _ h => h),fun W w4 v' own4 k' xs' hW hR hE hO hb => ⟨own4,fun b hb => ?_,hR,?_,fun b hb' => ?_⟩⟩
 ·have := h3.size
  have := hW.size
  rw [hE b (by omega)]
  exact h1 b hb
 ·exact (h3.trans hW).then hO (fun i hi e => by have := h4 i e; omega)
 ·rcases hb b hb' with e | e
  ·exact h4 _ e
  ·have := h3.size
   have := hW.size
   omega
theorem Zub (e0 : Ent) : ∀ u ∈ V7 e0,u.oneCell' = true := by
 intro u hu
 simp only [V7,List.mem_cons,List.not_mem_nil,or_false] at hu
 rcases hu with rfl | rfl | rfl | rfl <;> rfl
theorem Zod (own2 : Nat → Nat) (lb2 : Nat) {g cap tb : Nat} (e0 : Ent) (c1 : w.cell? ⟨x,1,none⟩ = some (.slice (some ⟨g,0,none⟩) 1 cap)) (cg : w.cell? ⟨g,0,none⟩ = some (Pt tb)) (HT : Hid (∀ W,Zb No w W → Calls Ydz 76 #[Pt tb] W fun e w' => ∃ u,e = .returned u ∧ Yd own2 W lb2 115 4 1 (V7 e0) u w')) :
  Calls Ydz 47 #[Pt x] w fun e w' => ∃ u,e = .returned u ∧ Yd own2 w lb2 115 4 1 (V7 e0) u w' := by
 have H0 : Hid (Yd own2 w lb2 115 4 0 ((Yef 0 e0).flatMap V7) (.slice none 0 0) w) := Ydy (Yd.nil own2 w lb2 115 4 (Yd0 _ _))
 have CG := Ydy cg
 have SO : Hid (∀ (a : Option Addr) (n c : Nat),n ≤ 1 → ∀ W,Calls Ydz 77 #[.slice a n c,.func (.func 78) #[] #[]] W fun e w' => e = .returned (.tuple #[]) ∧ W = w') := Ydy (fun a n c hn W => Zl0 hn W)
 clear cg
 go_enter Tryz.func47,Tryz.ntmps47
 go_wp2
 go_loopw [3,11] (fun v i wr => ∃ k : Nat,k ≤ 1 ∧ i = .int .i64 (k : Int) ∧ Yd own2 w lb2 115 4 k ((Yef k e0).flatMap V7) v wr) (fun _ i _ => 1 - (intOf i).toNat)
 case atStart => exact ⟨0,Yd2 _,rfl,H0.out⟩
 case round =>
  obtain ⟨k,hk,rfl,hG⟩ := hrel
  by_cases hlt : k < 1
  ·have e : k = 0 := by omega
   subst e
   have hO := hG.only
   have cg := Zd CG.out hO (fun h => h)
   have HT1 := Ydy (HT.out wr hO)
   obtain ⟨own',hA,hB⟩ := hG.appS
   have HA := Ydy hA
   have HB := Ydy hB
   have HONE := Ydy (Zub e0)
   have HO := Ydy hO
   clear hG hA hB hO
   go_wp2_with (first | (go_at_call 76; refine (HT1.out).mono ?_; rintro e w5 ⟨u,rfl,hu⟩; obtain ⟨a5,c5,rfl,hs5⟩ := hu.src; have HU := Ydy hu; obtain ⟨own5,_,hr5,_,_⟩ := hu; have HS5 := Ydy hr5.src; clear hr5 hs5) | (at_builtin; refine Vb (by rfl) _ _ _ (by rfl) Zo4 (by rfl) (HA.out _ HU.out.only) (by rfl) HS5.out HONE.out (by omega) ?_; intro v' w4 own4 r4 hE hO hb; have R4 := Ydy (HB.out _ _ _ _ _ _ HU.out.only r4 hE hO hb); clear r4 hE hO hb))
   go_roundw
   case rel => exact ⟨1,by omega,by go_num,R4.out⟩
   case measure => simp [intOf]
  ·have hkn : k = 1 := by omega
   subst hkn
   obtain ⟨a5,c5,hv5,_⟩ := hG.src
   subst hv5
   have HG := Ydy hG
   have S1 := Ydy (SO.out a5 1 c5 (Yea _) wr)
   clear hG
   go_wp2_with (go_at_call 77; refine (S1.out).mono ?_; rintro e w5 ⟨rfl,rfl⟩)
   go_ret
   exact ⟨_,rfl,by have := HG.out; simpa using this⟩
theorem Zr1 {l : Ya} {s : Sh} (h : Y4 own w x l s) (hn : s.n = 1) (he : s.ent = [(e0.k,e0)]) (own2 : Nat → Nat) (lb2 : Nat) :
  Calls Ydz 47 #[Pt x] w fun e w' => ∃ u,e = .returned u ∧ Yd own2 w lb2 115 4 1 (V7 e0) u w' := by
 have hrow := h.row
 rw [hn] at hrow
 obtain ⟨t,ht⟩ := h.tab 0 (by omega)
 have hent : ∀ k,Ve s 0 k = if k = e0.k then some e0 else none := fun k => by
  have hz : s.shard k = 0 := by
   have := Qo (Yf s.seed k) 2 (n:=s.n) (by omega)
   show Ye (Yf s.seed k) 2 s.n = 0
   omega
  unfold Ve
  rw [if_pos hz,he]
  unfold Zk
  by_cases hk : k = e0.k
  ·rw [if_pos hk.symm,if_pos hk]
  ·rw [if_neg (fun e => hk e.symm),if_neg hk]
   rfl
 rcases hrow.form with ⟨_,h1,_⟩ | ⟨g,cap,hv,_,_,_,_,_,hc⟩
 ·omega
 ·exact Zod own2 lb2 e0 ((Za (v:=l.tv) h.block rfl).trans (by rw [hv])) (hc 0 _ rfl) (Ydy fun W hW => Yc6 (ht.ok.kept (Ext.refl _ _) hW (fun _ _ _ h => h)) hent own2 lb2)
theorem Zq9 (own2 : Nat → Nat) (lb2 : Nat) {p ex : Nat} (e0 : Ent) (c0 : w.cell? ⟨x,0,none⟩ = some (Pt p)) (c1 : w.cell? ⟨p,1,none⟩ = some (Pt ex)) (HT : Hid (Calls Ydz 47 #[Pt ex] w fun e w' => ∃ u,e = .returned u ∧ Yd own2 w lb2 115 4 1 (V7 e0) u w')) :
  Calls Ydz 18 #[Pt x] w fun e w' => ∃ u,e = .returned u ∧ Yd own2 w lb2 3 1 1 (Y1 [e0.k]) u w' := by
 have HD : Hid (∀ w1 xs v wr,Zb No w w1 → Yd own2 w1 lb2 3 1 1 xs v wr → Yd own2 w lb2 3 1 1 xs v wr) := Ydy (fun w1 xs v wr ho h => h.down ho)
 go_enter Tryz.func18,Tryz.ntmps18
 go_wp2_with fail
 refine (HT.out).mono ?_
 rintro e w1 ⟨u,rfl,hu⟩
 obtain ⟨a5,c5,rfl,hs5⟩ := hu.src
 have HW1 := Ydy hu.only
 obtain ⟨g,hga,q0⟩ := hs5 0 _ rfl
 obtain ⟨g1,hga1,q1⟩ := hs5 1 _ rfl
 obtain ⟨g2,hga2,q2⟩ := hs5 2 _ rfl
 obtain ⟨g3,hga3,q3⟩ := hs5 3 _ rfl
 subst hga
 cases hga1
 cases hga2
 cases hga3
 have Q0 := Ydy q0
 have Q1 := Ydy q1
 have Q2 := Ydy q2
 have Q3 := Ydy q3
 have H0 : Hid (Yd own2 w1 lb2 3 1 0 (Y1 (Yef 0 e0.k)) (.slice none 0 0) w1) := Ydy (Yd.nil own2 w1 lb2 3 1 (Yd0 _ _))
 clear hu hs5 q0 q1 q2 q3 HT
 go_wp2
 go_loopw [3,15] (fun v i wr => ∃ k : Nat,k ≤ 1 ∧ i = .int .i64 (k : Int) ∧ Yd own2 w1 lb2 3 1 k (Y1 (Yef k e0.k)) v wr) (fun _ i _ => 1 - (intOf i).toNat)
 case atStart => exact ⟨0,Yd2 _,rfl,H0.out⟩
 case round =>
  obtain ⟨k,hk,rfl,hG⟩ := hrel
  by_cases hlt : k < 1
  ·have e : k = 0 := by omega
   subst e
   have hO := hG.only
   have q0 := Zd Q0.out hO (fun h => h)
   have q1 := Zd Q1.out hO (fun h => h)
   have q2 := Zd Q2.out hO (fun h => h)
   have q3 := Zd Q3.out hO (fun h => h)
   have hne1 : g ≠ wr.heap.size := Yed (Yd4 wr _ q0)
   obtain ⟨own',hA,hB⟩ := hG.app
   have HNN : Hid (∀ o1 o2,((wr.alloc o1).alloc o2).heap[wr.heap.size + 1]? = some o2) := Ydy (fun o1 o2 => by have := Zh (wr.alloc o1) o2; rwa [show (wr.alloc o1).heap.size = wr.heap.size + 1 from by simp] at this)
   have HA := Ydy hA
   have HB := Ydy hB
   clear hG hA hB hO
   go_wp2_with (at_builtin; refine Xx (by rfl) _ _ _ (by rfl) Zd1 (by rfl) (HA.out _ (((Yd0 No wr).alloc (.cells #[.int .i64 e0.k,.int .i64 e0.v,.int .i64 e0.w,.int .i64 e0.n] 115)).alloc _)) (B:=wr.heap.size + 1) (c:=1) (cs:=#[.int .i64 e0.k]) (tb:=3) (fr:=(0,0)) (by rfl) (HNN.out _ _) (by rfl) (by simp [Value.oneCell']) (by omega) ?_; intro g4 cap4 w4 r4 hg4 hor hsz; have R4 := Ydy (HB.out _ _ _ _ _ (((Yd0 No wr).alloc (.cells #[.int .i64 e0.k,.int .i64 e0.v,.int .i64 e0.w,.int .i64 e0.n] 115)).alloc _) r4 hg4 hor); clear r4 hg4 hor hsz)
   go_roundw
   case rel => exact ⟨1,by omega,by go_num,R4.out⟩
   case measure => simp [intOf]
  ·have hkn : k = 1 := by omega
   subst hkn
   have HG := Ydy hG
   clear hG
   go_wp2
   go_ret
   exact ⟨_,rfl,HD.out w1 _ _ _ HW1.out HG.out⟩
theorem Qr.keys1 {L : ML} {n : Nat} (h : Qr N M K ps own w x v L s n) (hn : s.sh.n = 1) (he : s.sh.ent = [(e0.k,e0)]) (own2 : Nat → Nat) (lb2 : Nat) :
  Calls Ydz 18 #[Pt x] w fun e w' => ∃ u,e = .returned u ∧ Yd own2 w lb2 3 1 1 (Y1 [e0.k]) u w' :=
 Zq9 own2 lb2 e0 (Za h.bx rfl) (Za h.m.parts rfl) (Ydy (Zr1 h.m.sh hn he own2 lb2))
end
def Xb (ps : List (List Op)) (w : World) (x : Nat) (v : Value) (s : St) (n : Nat) (W : World) : Prop := ∃ own L,Ext w (fun _ => 19) own ∧ Zb No w W ∧ Qr (Ji ps) (Zg1 ps) (14 * Ji ps) ps own W x v L s n
structure Zb0 (ps : List (List Op)) : Prop where
 n : Ji ps ≤ 60
 len : ps.length ≤ 6
 each : ∀ p ∈ ps,p.length ≤ 1000
theorem Xb.only {W : World} {n : Nat} (h : Xb ps w x v s n W) : Zb No w W := by
 obtain ⟨own,L,h1,h2,h3⟩ := h
 exact h2
theorem Xb.no {W : World} {n : Nat} (h : Xb ps w x v s n W) (ho : Zb No W W') : Xb ps w x v s n W' := by
 obtain ⟨own,L,h1,h2,h3⟩ := h
 exact ⟨own,L,h1,h2.trans ho,h3.no ho⟩
theorem Xb.then {W : World} {n' : Nat} (h1 : Ext w (fun _ => 19) own) (h2 : Zb No w W) (q : ∃ own' L',Qr (Ji ps) (Zg1 ps) (14 * Ji ps) ps own' W' x v L' s' n' ∧ Ext W own own' ∧ Zb (NG own) W W') : Xb ps w x v s' n' W' := by
 obtain ⟨own',L',q1,q2,q3⟩ := q
 exact ⟨own',L',h1.trans h2.size q2,h2.then q3 (fun i hi e => e (h1 i hi)),q1⟩
theorem Xb.new {w0 : World} {a : Option Addr} {cp : Nat} (c : Cfg) (hf : Zb0 ps) (hc : c.cap ≤ 512) (hp : Jh w a ps) (ha : ps.length ≤ cp) (he : Err.ErrType w) (ho : Zb No w0 w) :
  Calls Ydz 6 #[Zb5 c,.slice a ps.length cp] w fun e w' => ∃ x v,e = .returned (Pt x) ∧ Xb ps w0 x v (Xh c ps) 0 w' :=
 (Ztx (fun _ => 19) c ps hc (by have := hf.len; omega) hf.each hp ha).mono fun e w' q => by
  obtain ⟨x,p,v,q1,q2⟩ := q
  obtain ⟨own',L,r1,r2,r3⟩ := q2.run hc (by have := hf.len; omega) rfl he
  have := ho.size
  exact ⟨x,v,q1,own',L,fun b hb => r2 b (by omega),ho.trans r3,r1⟩
theorem Zut {l : List Int} {j : Nat} (h : l[j]? = some z) : (Y1 l)[j]? = some (.int .i64 z) := by unfold Y1; rw [Yek,h]; rfl
theorem Xb.runNew {W : World} {n : Nat} (h : Xb ps w x v s n W) (hf : Zb0 ps) (l : List Int) (hl : l.length ≤ 1000) (most : Nat) (hm : most ≤ 1000) (hm0 : 0 < most) (hn : n ≤ 1000) (cap : Nat) :
  Calls Ydz 7 #[Pt x,.slice (some ⟨W.heap.size,0,none⟩) l.length cap,.int .i64 (most : Int)] (W.alloc (.cells (Y1 l).toArray 3)) fun e w' => e = .returned (.int .i64 ((Qt l s 0 most).2 : Int)) ∧ Xb ps w x v (Qt l s 0 most).1 (n + most) w' := by
 obtain ⟨own,L,h1,h2,h3⟩ := h
 have hE : Ext W own (lab own W.heap.size 19) := (Ext.refl W own).lab (Yea _) _
 have hO : Zb No W (W.alloc (.cells (Y1 l).toArray 3)) := (Yd0 No W).alloc _
 have hN := hf.n
 have R : Qr (Ji ps) (Zg1 ps) (14 * Ji ps) ps (lab own W.heap.size 19) (W.alloc (.cells (Y1 l).toArray 3)) x v L s n := h3.moved hE hO (fun _ e => (e : False).elim) (h3.m.kept hE hO (fun _ _ _ h => h)) h3.i h3.t h3.cn h3.wn rfl rfl rfl
 have hP : Za8 (lab own W.heap.size 19) (W.alloc (.cells (Y1 l).toArray 3)) (some ⟨W.heap.size,0,none⟩) l := fun j z hz => ⟨_,rfl,by
  rw [Qs,Yex]
  refine Za (Zh W _) ?_
  simpa using Zut hz,by rw [Qs]; exact Zn _ _ _⟩
 refine (Zj3 R (by omega) (by omega) hf.each l hP (by omega) most (by omega) hm0 (by omega)).mono fun e w' q => ⟨q.1,?_⟩
 have h1' : Ext w (fun _ => 19) (lab own W.heap.size 19) := h1.trans h2.size hE
 exact Xb.then h1' (h2.trans hO) q.2
def Zjd (w : World) (a : Option Addr) (l : List Int) : Prop := ∀ (j : Nat) (z : Int),l[j]? = some z → ∃ ad,a = some ad ∧ w.cell? (ad.add j) = some (.int .i64 z)
theorem Xb.runOld {W : World} {n : Nat} (h : Xb ps w x v s n W) (hf : Zb0 ps) (l : List Int) (hl : l.length ≤ 1000) {a : Option Addr} (hp : Zjd w a l) (hn : n ≤ 1000) (hl0 : 0 < l.length) (cap : Nat) :
  Calls Ydz 7 #[Pt x,.slice a l.length cap,.int .i64 (l.length : Int)] W fun e w' => (∃ k,e = .returned (.int .i64 k)) ∧ Xb ps w x v (Qt l s 0 l.length).1 (n + l.length) w' := by
 obtain ⟨own,L,h1,h2,h3⟩ := h
 have hN := hf.n
 have hP : Za8 own W a l := fun j z hz => by
  obtain ⟨ad,e1,e2⟩ := hp j z hz
  exact ⟨ad,e1,Zd e2 h2 (fun h => h),h1 _ (Yd4 w _ e2)⟩
 exact (Zj3 h3 (by omega) (by omega) hf.each l hP (by omega) l.length (by omega) hl0 (by omega)).mono fun e w' q => ⟨⟨_,q.1⟩,Xb.then h1 h2 q.2⟩
theorem Xb.end_ {W : World} {n : Nat} (h : Xb ps w x v s n W) (hf : Zb0 ps) (hn : n ≤ 1000) (hc : Kd s ≤ 14 * 60) (hs : s.ths.length = ps.length) :
  Calls Ydz 8 #[Pt x,.int .i64 (ps.length : Int)] W fun e w' => e = .returned (.bool true) ∧ Xb ps w x v (Qt (Jt ps.length) s 0 100000).1 (n + 100000) w' := by
 obtain ⟨own,L,h1,h2,h3⟩ := h
 have hN := hf.n
 have hL := hf.len
 have hd : ∀ (i : Nat) (b : Bool),(Xm (Qt (Jt ps.length) s 0 100000).1)[i]? = some b → b = false := by
  have ht : (Jt ps.length).length = (if ps.length = 0 then 1 else ps.length) := by unfold Jt; simp
  refine Zxn (N:=Ji ps) (T:=if ps.length = 0 then 1 else ps.length) hN h3.i hc (by split <;> omega) (by split <;> omega) (by split <;> omega) ht (fun k hk => ?_)
  unfold Jt
  rw [Yd9,Yek,List.getElem?_range hk]
  rfl
 exact (h3.endT (by omega) (by omega) hf.each (by omega) ps.length (by omega) hd).mono fun e w' q => ⟨q.1,Xb.then h1 h2 q.2⟩
theorem Xb.records {W : World} {n : Nat} (h : Xb ps w x v s n W) (hf : Zb0 ps) :
  Calls Ydz 14 #[Pt x] W fun e w' => ∃ a c,e = .returned (.slice a s.recs.length c) ∧ Yy w' a (Z5 s.recs) ∧ Xb ps w x v s n w' ∧ Zb No W w' := by
 have hh := h
 obtain ⟨own,L,h1,h2,h3⟩ := h
 have hN := hf.n
 exact (h3.records (by omega)).mono fun e w' q => by
  obtain ⟨u,rfl,hG⟩ := q
  obtain ⟨a,c,rfl,hs⟩ := hG.src
  exact ⟨a,c,rfl,hs,hh.no hG.only,hG.only⟩
theorem Xb.events {W : World} {n : Nat} (h : Xb ps w x v s n W) (hf : Zb0 ps) :
  Calls Ydz 11 #[Pt x] W fun e w' => ((∃ g c,e = .returned (.slice (some ⟨g,0,none⟩) s.evs.length c) ∧ W.heap.size ≤ g ∧ ∀ j u,(Qu s.evs)[j]? = some u → w'.cell? ⟨g,j,none⟩ = some u) ∨ (e = .returned (.slice none 0 0) ∧ s.evs = [])) ∧ Xb ps w x v s n w' ∧ Zb No W w' := by
 have hh := h
 obtain ⟨own,L,h1,h2,h3⟩ := h
 have hN := hf.n
 exact (h3.events (by omega)).mono fun e w' q => by
  obtain ⟨u,rfl,hG⟩ := q
  refine ⟨?_,hh.no hG.only,hG.only⟩
  obtain ⟨own',g1,g2,g3,g4⟩ := hG
  rcases g2.form with ⟨rfl,h0,_⟩ | ⟨g,cap,rfl,_,_,_,_,_,hc⟩
  ·exact .inr ⟨rfl,List.length_eq_zero_iff.1 h0⟩
  ·exact .inl ⟨g,cap,rfl,g4 g rfl,fun j u hu => hc j u hu⟩
theorem Xb.status {W : World} {n : Nat} (h : Xb ps w x v s n W) (hn : n ≤ 200000) :
  Calls Ydz 19 #[Pt x] W fun e w' => e = .returned (.int .i64 s.status) ∧ Xb ps w x v s (n + 1) w' := by
 obtain ⟨own,L,h1,h2,h3⟩ := h
 exact (h3.status hn).mono fun e w' q => ⟨q.1,Xb.then h1 h2 q.2⟩
theorem Xb.keys1 {W : World} {n : Nat} (h : Xb ps w x v s n W) (hn : s.sh.n = 1) (he : s.sh.ent = [(e0.k,e0)]) :
  Calls Ydz 18 #[Pt x] W fun e w' => ∃ a c,e = .returned (.slice a 1 c) ∧ Yy w' a (Y1 [e0.k]) ∧ Xb ps w x v s n w' ∧ Zb No W w' := by
 have hh := h
 obtain ⟨own,L,h1,h2,h3⟩ := h
 exact (h3.keys1 hn he (fun _ => 19) 14).mono fun e w' q => by
  obtain ⟨u,rfl,hG⟩ := q
  obtain ⟨a,c,rfl,hs⟩ := hG.src
  exact ⟨a,c,rfl,hs,hh.no hG.only,hG.only⟩
section
attribute [local go_sem] Yeh Zg Zf
theorem Zgs {a : Option Addr} {c : Nat} (l : List Rec) (hl : Yy w a (Z5 l)) (hlen : l.length ≤ 1000) (hb : ∀ r ∈ l,0 ≤ r.o) :
  Calls Ydz 74 #[.slice a l.length c] w fun e w' => e = .returned (.slice none 0 0) ∧ Zb No w w' := by
 have HL := Ydy hl
 have HB := Ydy hb
 clear hl hb
 generalize hn : l.length = n at *
 have HN := Ydy hn
 clear hn
 go_enter Tryz.func74,Tryz.ntmps74
 go_wp2
 go_loopw [3,8] (fun v i wr => ∃ k : Nat,k ≤ n ∧ i = .int .i64 (k : Int) ∧ v = .slice none 0 0 ∧ Zb No w wr) (fun _ i _ => n - (intOf i).toNat)
 case atStart => exact ⟨0,Yd2 _,rfl,rfl,Yd0 No w⟩
 case round =>
  obtain ⟨k,hk,rfl,rfl,ho⟩ := hrel
  by_cases hlt : k < n
  ·have hkb : decide ((k : Int) < (n : Int)) = true := decide_eq_true (by omega)
   have hk0 : (0 : Int) ≤ (k : Int) := by omega
   have hk1 : (k : Int) < (n : Int) := by omega
   have hkl : k < l.length := by have := HN.out; omega
   obtain ⟨r,hr⟩ : ∃ r,l[k]? = some r := ⟨_,Yd1 hkl⟩
   obtain ⟨g,hga,q0,q1,q2,q3,q4,q5,q6,q7⟩ := Zcu HL.out hr
   subst hga
   replace q0 := Zd q0 ho (fun h => h)
   replace q1 := Zd q1 ho (fun h => h)
   replace q2 := Zd q2 ho (fun h => h)
   replace q3 := Zd q3 ho (fun h => h)
   replace q4 := Zd q4 ho (fun h => h)
   replace q5 := Zd q5 ho (fun h => h)
   replace q6 := Zd q6 ho (fun h => h)
   replace q7 := Zd q7 ho (fun h => h)
   have hne1 : g ≠ wr.heap.size := Yed (Yd4 wr _ q0)
   have hob : decide (r.o < 0) = false := decide_eq_false (by have := HB.out r (Yd3 hr); omega)
   have HO := Ydy (ho.trans ((Yd0 No wr).alloc (Kk r)))
   unfold Kk at HO
   clear hkl hr ho
   go_wp2
   go_roundw
   case rel => exact ⟨k + 1,by omega,by go_num,by first | rfl | trivial,HO.out⟩
   case measure => simp [intOf]; omega
  ·have hkn : k = n := by omega
   subst hkn
   have HO := Ydy ho
   clear ho
   go_wp2
   go_ret
   exact ⟨rfl,HO.out⟩
def Zzt (l : List Rec) (cs : List Qq) (os : List Nat) : Prop := ∀ (i k : Nat),os[i]? = some k → ∃ (c : Qq) (m : Nat) (r : Rec),cs[k]? = some c ∧ c.a = (m : Int) ∧ l[m]? = some r
def Zbj (l : List Rec) (cs : List Qq) (os : List Nat) : List Com := os.map fun k => (l.getD (cs.getD k Ztr).a.toNat Zzv).c
theorem Zrw {os : List Nat} {k m : Nat} {c : Qq} {r : Rec} (hk : os[i]? = some k) (hc : cs[k]? = some c) (hm : c.a = (m : Int)) (hr : l[m]? = some r) : Zbj l cs (os.take (i + 1)) = Zbj l cs (os.take i) ++ [r.c] := by
 unfold Zbj
 rw [Yel,hk]
 simp only [List.map_append,Option.toList_some,List.map_cons,List.map_nil]
 rw [Yd9 (l:=cs),hc]
 simp only [Option.getD_some,hm,Int.toNat_natCast]
 rw [Yd9,hr]
 rfl
theorem Zw1 {a : Option Addr} {c c2 : Nat} (l : List Rec) (os : List Nat) (hl : Yy w a (Z5 l)) (hos : Yy w a2 (Zc5 os)) (hlen : l.length ≤ 1000) (hol : os.length ≤ 1000) {x : Rd} (hx : Xa l l.length = some x) (hb : ∀ r ∈ l,0 ≤ r.o ∧ r.o ≤ 100000) (hR : Zzt l x.calls os) (own : Nat → Nat) (lb : Nat) :
  Calls Ydz 45 #[.slice a l.length c,.slice a2 os.length c2] w fun e w' => ∃ u,e = .returned u ∧ Yd own w lb 72 4 os.length ((Zbj l x.calls os).flatMap Vd) u w' := by
 have hb' : ∀ r ∈ l,-1 ≤ r.o ∧ r.o ≤ 100000 := fun r hr => ⟨by have := (hb r hr).1; omega,(hb r hr).2⟩
 have hr : J4 l = true := by unfold J4 Zes; rw [hx]; rfl
 have HRT := Ydy (Zax (w:=w) (a:=a) (c:=c) l hl hlen hr hb')
 have HCL : Hid (∀ W,Zb No w W → Calls Ydz 39 #[.slice a l.length c] W fun e w' => ∃ a2 c2,e = .returned (.slice a2 x.calls.length c2) ∧ Yy w' a2 (Yc x.calls) ∧ Zb No W w') := Ydy (fun W hW => (Zdh (c:=c) l (hl.no hW) hlen hx hb' (fun _ => 19) 14).mono fun e w' q => by
  obtain ⟨u,rfl,hG⟩ := q
  obtain ⟨a2,c2,rfl,hs⟩ := hG.src
  exact ⟨a2,c2,rfl,hs,hG.only⟩)
 have HEV : Hid (∀ W,Zb No w W → Calls Ydz 74 #[.slice a l.length c] W fun e w' => e = .returned (.slice none 0 0) ∧ Zb No W w') := Ydy (fun W hW => Zgs l (hl.no hW) hlen (fun r hr => (hb r hr).1))
 have HL := Ydy hl
 have HOS := Ydy hos
 have HR := Ydy hR
 have HD : Hid (∀ w1 k xs v wr,Zb No w w1 → Yd own w1 lb 72 4 k xs v wr → Yd own w lb 72 4 k xs v wr) := Ydy (fun w1 k xs v wr ho h => h.down ho)
 have HFIN : Hid (Zbj l x.calls os = Zbj l x.calls (os.take os.length)) := Ydy (by rw [Yem])
 clear hl hos hx hb hb' hr hR
 generalize hcs : x.calls = cs at *
 clear hcs x
 generalize hn : os.length = n at *
 have HN := Ydy hn
 generalize hnl : l.length = nl at *
 have HNL := Ydy hnl
 clear hn hnl
 go_enter Tryz.func45,Tryz.ntmps45
 go_wp2_with (first | (go_at_call 36; refine (HRT.out).mono ?_; rintro e w1 ⟨rfl,h1⟩; have H1 := Ydy h1; clear h1) | (go_at_call 39; refine (HCL.out _ H1.out).mono ?_; rintro e w2 ⟨a3,c3,rfl,hs,h2⟩; have HS := Ydy hs; have H2 := Ydy (H1.out.trans h2); clear h2 hs) | (go_at_call 74; refine (HEV.out _ H2.out).mono ?_; rintro e w3 ⟨rfl,h3⟩; have H3 := Ydy h3; clear h3))
 have HW3 := Ydy (H2.out.trans H3.out)
 have HS3 := Ydy (HS.out.no H3.out)
 clear HRT HCL HEV H1 H2 H3 HS
 have H0 : Hid (Yd own w3 lb 72 4 0 ((Zbj l cs (os.take 0)).flatMap Vd) (.slice none 0 0) w3) := Ydy (Yd.nil own w3 lb 72 4 (Yd0 _ _))
 generalize hm : cs.length = nc at *
 have HM := Ydy hm
 clear hm
 go_loopw [7,19] (fun v i wr => ∃ k : Nat,k ≤ n ∧ i = .int .i64 (k : Int) ∧ Yd own w3 lb 72 4 k ((Zbj l cs (os.take k)).flatMap Vd) v wr) (fun _ i _ => n - (intOf i).toNat)
 case atStart => exact ⟨0,Yd2 _,rfl,H0.out⟩
 case round =>
  obtain ⟨i,hi,rfl,hG⟩ := hrel
  by_cases hlt : i < n
  ·have hkb : decide ((i : Int) < (n : Int)) = true := decide_eq_true (by omega)
   have hk0 : (0 : Int) ≤ (i : Int) := by omega
   have hk1 : (i : Int) < (n : Int) := by omega
   have hkl : i < os.length := by have := HN.out; omega
   obtain ⟨k,hrk⟩ : ∃ m,os[i]? = some m := ⟨_,Yd1 hkl⟩
   obtain ⟨cl,m,r,hc,hma,hr⟩ := HR.out i k hrk
   have ho := hG.only
   obtain ⟨g0,hga0,p0⟩ := Zez HOS.out hrk
   subst hga0
   replace p0 := Zd (Zd p0 HW3.out (fun h => h)) ho (fun h => h)
   obtain ⟨g,hga,q0,q1,q2,q3,q4,q5,q6,q7⟩ := Zcu HL.out hr
   subst hga
   replace q3 := Zd (Zd q3 HW3.out (fun h => h)) ho (fun h => h)
   replace q4 := Zd (Zd q4 HW3.out (fun h => h)) ho (fun h => h)
   replace q5 := Zd (Zd q5 HW3.out (fun h => h)) ho (fun h => h)
   replace q6 := Zd (Zd q6 HW3.out (fun h => h)) ho (fun h => h)
   obtain ⟨g2,hga2,r0,r1,r2,r3,r4⟩ := Vo HS3.out hc
   subst hga2
   replace r3 := Zd r3 ho (fun h => h)
   rw [hma] at r3
   have hkc : k < nc := by
    have := HM.out
    rcases Yeo k cs.length with a | a
    ·omega
    ·rw [Yd7 a] at hc; cases hc
   have hml : m < nl := by
    have := HNL.out
    rcases Yeo m l.length with a | a
    ·omega
    ·rw [Yd7 a] at hr; cases hr
   have E : Hid (Zbj l cs (os.take (i + 1)) = Zbj l cs (os.take i) ++ [r.c]) := Ydy (Zrw hrk hc hma hr)
   have em : ((k : Int) == -1) = false := beq_eq_false_iff_ne.2 (by omega)
   have em0 : decide ((k : Int) < 0) = false := decide_eq_false (by omega)
   have em1 : decide (nc ≤ k) = false := decide_eq_false (by omega)
   have em2 : decide ((m : Int) < 0) = false := decide_eq_false (by omega)
   have kk0 : (0 : Int) ≤ (k : Int) := by omega
   have kk1 : (k : Int) < (nc : Int) := by omega
   have mm0 : (0 : Int) ≤ (m : Int) := by omega
   have mm1 : (m : Int) < (nl : Int) := by omega
   obtain ⟨own',hA,hB⟩ := hG.app
   have HA := Ydy hA
   have HB := Ydy hB
   clear hkl hrk hc hma hr ho hG hA hB q0 q1 q2 q7 r0 r1 r2 r4
   go_wp2_with (at_builtin; refine Xx (by rfl) _ _ _ (by rfl) Zky (by rfl) (HA.out _ ((Yd0 No wr).alloc _)) (B:=wr.heap.size) (c:=1) (cs:=#[.int .i64 r.c.d,.int .i64 r.c.k,.int .i64 r.c.v,.bool r.c.h]) (tb:=72) (fr:=(0,0)) (by rfl) (Zh _ _) (by rfl) (by simp [Value.oneCell']) (by omega) ?_; intro g4 cap4 w4 r4 hg4 hor hsz; have R4 := Ydy (HB.out _ _ _ _ _ ((Yd0 No wr).alloc _) r4 hg4 hor); clear r4 hg4 hor hsz)
   go_roundw
   case rel =>
    refine ⟨i + 1,by omega,by go_num,?_⟩
    rw [E.out,Zd0]
    exact R4.out
   case measure => simp [intOf]; omega
  ·have hkn : i = n := by omega
   subst hkn
   have HG := Ydy hG
   clear hG
   go_wp2
   go_ret
   refine ⟨_,rfl,HD.out w3 _ _ _ _ HW3.out ?_⟩
   rw [HFIN.out]
   exact HG.out
def Zw5 (w : World) (mb : Nat) (s : List (Int × Int)) (w' : World) : Prop := Zs w' mb (kf s) s.length ∧ Zb (fun b => b = mb) w w'
theorem Zy0 {mb : Nat} {s : List (Int × Int)} (hm : Zs w mb (kf s) s.length) (hs : Yo s) (hn : s.length < 1000000) {c : Com} (hk : I64 c.k) :
  Calls Ydz 120 #[.map (some mb),Zql c] w fun e w' => e = .returned (.tuple #[]) ∧ Zw5 w mb (doC s c) w' := by
 obtain ⟨d,k,v,h⟩ := c
 simp only at hk
 have HM : Hid (Zs (w.alloc (Zdf ⟨d,k,v,h⟩)) mb (kf s) s.length) := Ydy (hm.alloc _)
 have HO : Hid (Zb (fun b => b = mb) w (w.alloc (Zdf ⟨d,k,v,h⟩))) := Ydy ((Yd0 _ w).alloc _)
 have HP : Hid (∀ w',Zs w' mb (upd (kf s) k (some (.int .i64 v))) (if (kf s k).isSome then s.length else s.length + 1) → (w.alloc (Zdf ⟨d,k,v,h⟩)).mapTurned w' mb → Zw5 w mb (Yn s k v) w') := Ydy (fun w' h1 h2 => by
  rw [Kw,← Xk hs k v] at h1
  exact ⟨h1.eq (fun i _ => Zgw s k v i),HO.out.turned h2 (.inl rfl)⟩)
 have HD : Hid (∀ w',Zs w' mb (upd (kf s) k none) (if (kf s k).isSome then s.length - 1 else s.length) → (w.alloc (Zdf ⟨d,k,v,h⟩)).mapTurned w' mb → Zw5 w mb (Xe s k) w') := Ydy (fun w' h1 h2 => by
  rw [Kw,← Qk hs k] at h1
  exact ⟨h1.eq (fun i _ => Znq s k i),HO.out.turned h2 (.inl rfl)⟩)
 have H1 : Hid (Zw5 w mb s (w.alloc (Zdf ⟨d,k,v,h⟩))) := Ydy ⟨HM.out,HO.out⟩
 unfold Zdf at HM HP HD H1
 unfold Zql doC
 simp only at HM HP HD H1 ⊢
 clear hm HO hs
 by_cases d2 : d = 2
 ·subst d2
  rw [if_pos rfl]
  go_enter Yep,Yej
  go_wp2_with (refine Y0 (by rfl) (t:=173) (by rfl) (e:=3) Yeg (b:=mb) (by rfl) HM.out hn (k:=k) (val:=.int .i64 v) (by rfl) (by rfl) hk ?_; intro w7 hm7 htt; have HQ := Ydy (HP.out w7 hm7 htt); clear hm7 htt)
  go_end0
  exact ⟨rfl,HQ.out⟩
 ·rw [if_neg d2]
  have b2 : (d == 2) = false := beq_eq_false_iff_ne.2 d2
  by_cases d34 : d = 3 ∨ d = 4
  ·rw [if_pos d34]
   rcases d34 with rfl | rfl
   ·go_enter Yep,Yej
    go_wp2_with (at_delete; refine J8 (by rfl) (by rfl) Yeg (b:=mb) (by rfl) HM.out (by rfl) hk ?_; intro w7 hm7 htt; have HQ := Ydy (HD.out w7 hm7 htt); clear hm7 htt)
    go_end0
    exact ⟨rfl,HQ.out⟩
   ·go_enter Yep,Yej
    go_wp2_with (at_delete; refine J8 (by rfl) (by rfl) Yeg (b:=mb) (by rfl) HM.out (by rfl) hk ?_; intro w7 hm7 htt; have HQ := Ydy (HD.out w7 hm7 htt); clear hm7 htt)
    go_end0
    exact ⟨rfl,HQ.out⟩
  ·rw [if_neg d34]
   have b3 : (d == 3) = false := beq_eq_false_iff_ne.2 (fun e => d34 (.inl e))
   have b4 : (d == 4) = false := beq_eq_false_iff_ne.2 (fun e => d34 (.inr e))
   go_enter Yep,Yej
   go_wp2
   go_end0
   exact ⟨rfl,H1.out⟩
def Zoy (w : World) (l : List Com) (mb k : Nat) (wr : World) : Prop := Zs wr mb (kf (Zad [] l k)) (Zad [] l k).length ∧ Zb No w wr ∧ Yo (Zad [] l k) ∧ (Zad [] l k).length ≤ k
theorem Zr0 {a : Option Addr} {c : Nat} (l : List Com) (hl : Yy w a (l.flatMap Vd)) (hlen : l.length ≤ 1000) (hlg : Vv [] l = l.length) (hI : ∀ r ∈ l,I64 r.k) :
  Calls Ydz 75 #[.slice a l.length c] w fun e w' => ∃ m,e = .returned (.tuple #[.int .i64 (l.length : Int),.map (some m)]) ∧ Zb No w w' := by
 have HL := Ydy hl
 have HG : Hid (Vv [] l = l.length) := Ydy hlg
 have HI := Ydy hI
 have hmm := @run_makeMap Ydz
 clear hl hlg hI
 go_enter Tryz.func75,Tryz.ntmps75
 go_wp2
 have H0 : Hid (Zoy w l w.heap.size 0 (w.alloc (.map #[] 0))) := Ydy ⟨Zs.made w,(Yd0 No w).alloc _,List.nodup_nil,Yea _⟩
 generalize hmb : w.heap.size = mb at *
 have HMB := Ydy hmb
 clear hmb
 generalize hn : l.length = n at *
 have HN := Ydy hn
 clear hn hmm
 go_loopw [12] (fun i wr => ∃ k : Nat,k ≤ n ∧ i = .int .i64 (k : Int) ∧ Zoy w l mb k wr) (fun i _ => n - (intOf i).toNat)
 case atStart => exact ⟨0,Yd2 _,rfl,H0.out⟩
 case round =>
  obtain ⟨k,hk,rfl,r1,r2,r3,r4⟩ := hrel
  by_cases hlt : k < n
  ·have hkb : decide ((k : Int) < (n : Int)) = true := decide_eq_true (by omega)
   have hk0 : (0 : Int) ≤ (k : Int) := by omega
   have hk1 : (k : Int) < (n : Int) := by omega
   have hkl : k < l.length := by have := HN.out; omega
   obtain ⟨r,hr⟩ : ∃ r,l[k]? = some r := ⟨_,Yd1 hkl⟩
   obtain ⟨g,hga,q0,q1,q2,q3⟩ := Zh1 HL.out hr
   subst hga
   replace q0 := Zd q0 r2 (fun h => h)
   replace q1 := Zd q1 r2 (fun h => h)
   replace q2 := Zd q2 r2 (fun h => h)
   replace q3 := Zd q3 r2 (fun h => h)
   have hgl : g < wr.heap.size := Yd4 wr _ q0
   have hne1 : g ≠ wr.heap.size := Yed hgl
   have MAY : Hid (∀ W,Zb No wr W → Calls Ydz 119 #[.map (some mb),.int .i64 r.d,.int .i64 r.k,.int .i64 r.v] W fun e w' => e = .returned (.tuple #[Zql r,.bool true]) ∧ Zb No W w') := Ydy (fun W hW => Zx9 (r1.kept hW (fun h => h)) (HI.out r (Yd3 hr)) (Zlh l [] (HG.out.trans HN.out.symm) hr))
   have DO : Hid (∀ W,Zb No wr W → Calls Ydz 120 #[.map (some mb),Zql r] W fun e w' => e = .returned (.tuple #[]) ∧ Zoy w l mb (k + 1) w') := Ydy (fun W hW => (Zy0 (r1.kept hW (fun h => h)) r3 (by have := HN.out; omega) (HI.out r (Yd3 hr))).mono fun e w' q => ⟨q.1,by
    obtain ⟨-,m1,m2⟩ := q
    have hd := Yab r3 r
    unfold Zoy
    rw [Zka hr]
    exact ⟨m1,(r2.trans hW).then m2 (fun i hi hT => by have := HMB.out; omega),hd.1,by omega⟩⟩)
   clear r1 r2 r3 r4 hr hkl
   go_wp2_with fail
   refine (MAY.out _ ((Yd0 No wr).alloc (Zdf r))).mono ?_
   rintro e w5 ⟨rfl,h5⟩
   have H5 := Ydy h5
   have B5 : w5.heap[wr.heap.size]? = some (Zdf r) := (h5.block _ (by simp) (fun h => h)).trans (Zh wr (Zdf r))
   have s5 : wr.heap.size < w5.heap.size := Ze B5
   obtain ⟨p0,p1,p2,p3,-⟩ := Yh B5
   clear h5 MAY q0 q1 q2 q3 B5
   unfold Zql
   go_wp2_with fail
   refine (DO.out _ ((((Yd0 No wr).alloc (Zdf r)).trans H5.out).alloc (Zdf r))).mono ?_
   rintro e w6 ⟨rfl,h6⟩
   have H6 := Ydy h6
   clear h6 DO
   go_wp2
   go_roundw
   case rel => exact ⟨k + 1,by omega,by go_num,H6.out⟩
   case measure => simp [intOf]; omega
  ·have hkn : k = n := by omega
   subst hkn
   have HO := Ydy r2
   clear r1 r2 r3 r4
   go_wp2
   go_ret2
   exact ⟨mb,by simp [go_sem,HN.out],HO.out⟩
end
structure Zer (s : St) : Prop where
 r : ∀ r ∈ s.recs,I64 r.c.k ∧ -1 ≤ r.o ∧ r.o ≤ 100000
 t : ∀ (i : Nat) (t : Th),s.ths[i]? = some t → I64 t.com.k
 e : ∀ k e,Zk s.sh.ent k = some e → I64 e.k
theorem Zer.go (h : Zer s) {t' : Th} (hs : s'.ths = s.ths.set i t') (hc : I64 t'.com.k) (hr : ∀ r ∈ s'.recs,r ∈ s.recs ∨ (I64 r.c.k ∧ -1 ≤ r.o ∧ r.o ≤ 100000)) (he : ∀ k e,Zk s'.sh.ent k = some e → Zk s.sh.ent k = some e ∨ I64 e.k) : Zer s' :=
 ⟨fun r hm => (hr r hm).elim (fun h1 => h.r r h1) id,fun j u hu => by
  rw [hs] at hu
  rcases Jf hu with ⟨rfl,rfl⟩ | ⟨_,hj⟩
  ·exact hc
  ·exact h.t j u hj,fun k e hk => (he k e hk).elim (fun h1 => h.e k e h1) id⟩
theorem Zer.step (hps : ∀ p ∈ ps,p.length ≤ 1000 ∧ ∀ o ∈ p,I64 o.k) (A : X7 N ps s) (h : Zer s) {t : Th} (ht : s.ths[i]? = some t) (tr : Tr s i t s') : Zer s' := by
 have hP : t.prog.length ≤ 1000 ∧ ∀ o ∈ t.prog,I64 o.k := hps _ (by
  rw [← A.progs]
  exact Yeb.2 ⟨t,Yd3 ht,rfl⟩)
 have T := A.th i t ht
 have hop := T.op
 have T0 := h.t i t ht
 have same : ∀ r ∈ s.recs,r ∈ s.recs ∨ (I64 r.c.k ∧ -1 ≤ r.o ∧ r.o ≤ 100000) := fun _ h => .inl h
 have more : ∀ r0 : Rec,I64 r0.c.k → -1 ≤ r0.o → r0.o ≤ 100000 → ∀ r ∈ s.recs ++ [r0],r ∈ s.recs ∨ (I64 r.c.k ∧ -1 ≤ r.o ∧ r.o ≤ 100000) := fun r0 h1 h2 h3 r hm => by
  rcases List.mem_append.1 hm with hm | hm
  ·exact .inl hm
  ·rw [List.mem_singleton.1 hm]; exact .inr ⟨h1,h2,h3⟩
 have ents : ∀ k e,Zk s.sh.ent k = some e → Zk s.sh.ent k = some e ∨ I64 e.k := fun _ _ h => .inl h
 have o1 : (-1 : Int) ≤ (t.op : Int) := by omega
 have o2 : (t.op : Int) ≤ 100000 := by omega
 have oK : ∀ {o : Op},t.prog[t.op]? = some o → I64 o.k := fun ho => hP.2 _ (Yd3 ho)
 have put : ∀ {o : Op},I64 o.k → ∀ k e,Zk (s.sh.put o).ent k = some e → Zk s.sh.ent k = some e ∨ I64 e.k := fun {o} ho k e hk => by
  unfold Sh.put at hk
  split at hk <;> (simp only [Yv] at hk; split at hk; (cases hk; exact .inr ho); exact .inl hk)
 have rem : ∀ (k0 : Int) k e,Zk (s.sh.remove k0).ent k = some e → Zk s.sh.ent k = some e ∨ I64 e.k := fun k0 k e hk => by
  unfold Sh.remove at hk
  split at hk
  ·simp only at hk
   rw [Xp] at hk
   split at hk
   ·cases hk
   ·exact .inl hk
  ·exact .inl hk
 cases tr with
 | done => exact h
 | wait3 => exact h
 | wait9 => exact h
 | wait12 => exact h
 | beg _ o ho ph er hb => exact h.go rfl (oK ho) (more _ (oK ho) o1 o2) ents
 | full => exact h.go rfl T0 same ents
 | reserve => exact h.go rfl T0 same ents
 | back1 => exact h.go rfl T0 same ents
 | back16 => exact h.go rfl T0 same ents
 | drain => exact h.go rfl T0 same ents
 | lock3 => exact h.go rfl T0 same ents
 | lock12 => exact h.go rfl T0 same ents
 | get _ o ho hd c hc => subst hc; exact h.go rfl T0 (more _ T0 o1 o2) ents
 | putOld _ o ho => exact h.go rfl T0 (more _ T0 o1 o2) (put (oK ho))
 | putNew _ o ho => exact h.go rfl T0 (more _ T0 o1 o2) (put (oK ho))
 | delHit _ o ho hd e he c hc => subst hc; exact h.go rfl T0 (more _ T0 o1 o2) (rem _)
 | delMiss _ o ho hd he c hc => subst hc; exact h.go rfl T0 (more _ T0 o1 o2) ents
 | unlock => exact h.go rfl T0 same ents
 | offer => exact h.go rfl T0 same ents
 | lost => exact h.go rfl T0 same ents
 | mark => exact h.go rfl T0 same ents
 | ans => exact h.go rfl T0 (more _ T0 o1 o2) ents
 | reads0 => exact h.go rfl T0 same ents
 | reads1 => exact ⟨h.r,h.t,h.e⟩
 | writes0 => exact h.go rfl T0 same ents
 | writes1 => exact h.go rfl T0 same ents
 | evict0 => exact h.go rfl T0 same ents
 | evict1 _ k hk e he => exact h.go rfl T0 (more _ (h.e _ _ he) (show (-1 : Int) ≤ -1 by decide) (show (-1 : Int) ≤ 100000 by decide)) (rem _)
 | release => exact h.go rfl T0 same ents
 | again => exact h.go rfl T0 same ents
 | finish => exact h.go rfl T0 same ents
theorem Zer.one (hps : ∀ p ∈ ps,p.length ≤ 1000 ∧ ∀ o ∈ p,I64 o.k) (A : J9 N M K ps s) (h : Zer s) (i : Nat) : Zer (W.step s i) := by
 cases ht : s.ths[i]? with
 | none => rw [V4 ht]; exact h
 | some t => exact h.step hps A.p.a ht (A.p.tr ht)
theorem Zzy (hN : N ≤ 60000) {l : List Int} (hps : ∀ p ∈ ps,p.length ≤ 1000 ∧ ∀ o ∈ p,I64 o.k) : ∀ (k n : Nat) {s : St},J9 N M K ps s → Zer s → Zer (Qt l s n k).1
 | 0,_,_,_,h => h
 | k + 1,n,s,A,h => by
  cases hn : Ql (if l.length = 0 then 0 else l.getD (n % l.length) 0) (Xm s) with
  | none => rw [Ku hn]; exact h
  | some j =>
   rw [Zbk hn]
   exact Zzy hN hps k (n + 1) (A.step hN j).1 (h.one hps A j)
theorem Ycs {c : Cfg} : Zer (Xh c ps) := by
 refine ⟨fun r h => (nomatch h),fun i t ht => ?_,fun k e h => (nomatch h)⟩
 obtain ⟨p,_,rfl⟩ := Zf4 ht
 exact (show (-9223372036854775808 : Int) ≤ 0 ∧ (0 : Int) ≤ 9223372036854775807 by decide)
section
attribute [local go_sem] Yeh Zg Zf
theorem Zie {a : Option Addr} {c : Nat} (l : List Com) (hl : Yy w a (l.flatMap Vd)) (hlen : l.length ≤ 1000) (hlg : Vv [] l = l.length) (hI : ∀ r ∈ l,I64 r.k) :
  Calls Ydz 46 #[.slice a l.length c] w fun e w' => e = .returned (.int .i64 (l.length : Int)) ∧ Zb No w w' := by
 have HR := Ydy (Zr0 (w:=w) (a:=a) (c:=c) l hl hlen hlg hI)
 clear hl hlg hI
 go_enter Tryz.func46,Tryz.ntmps46
 go_wp2_with fail
 refine (HR.out).mono ?_
 rintro e w1 ⟨m,rfl,h1⟩
 have H1 := Ydy h1
 clear h1 HR
 go_wp2
 go_ret
 exact ⟨rfl,H1.out⟩
theorem Zoh {a : Option Addr} {c : Nat} (l : List Com) (hl : Yy w a (l.flatMap Vd)) (hlen : l.length ≤ 1000) (hlg : Vv [] l = l.length) (hI : ∀ r ∈ l,I64 r.k) (hev : (Qb l).length = 0) :
  Calls Ydz 38 #[.slice a l.length c] w fun e w' => e = .returned (.bool true) ∧ Zb No w w' := by
 have HR := Ydy (Zie (w:=w) (a:=a) (c:=c) l hl hlen hlg hI)
 have HE : Hid (∀ W,Zb No w W → Calls Ydz 12 #[.slice a l.length c] W fun e w' => (∃ a2 c2,e = .returned (.slice a2 0 c2)) ∧ Zb No w w') := Ydy (fun W hW => (Zfi l (hl.no hW) hlen (fun _ => 19) 14).mono fun e w' q => by
  obtain ⟨u,rfl,hG⟩ := q
  obtain ⟨a2,c2,hu,_⟩ := hG.src
  rw [hev] at hu
  exact ⟨⟨a2,c2,by rw [hu]⟩,hW.trans hG.only⟩)
 clear hl hlg hI hev
 go_enter Tryz.func38,Tryz.ntmps38
 go_wp2_with fail
 refine (HR.out).mono ?_
 rintro e w1 ⟨rfl,h1⟩
 have H1 := Ydy (HE.out _ h1)
 clear h1 HR HE
 go_wp2_with fail
 refine (H1.out).mono ?_
 rintro e w2 ⟨⟨a2,c2,rfl⟩,h2⟩
 have H2 := Ydy h2
 clear h2 H1
 go_wp2
 go_ret
 exact ⟨rfl,H2.out⟩
theorem Zks {c : Com} (h : c ∈ Z8 l) : ∃ r ∈ l,r.c = c := by
 unfold Z8 at h
 split at h
 ·obtain ⟨r,hr,e⟩ := Yeb.1 h
  exact ⟨r,(List.mem_filter.1 hr).1,e⟩
 ·exact nomatch h
theorem Zfg (l : List Rec) : (Z8 l).length ≤ l.length := by
 unfold Z8
 split
 ·rw [List.length_map]; exact List.length_filter_le _ _
 ·exact Yd2 _
theorem Zot {a : Option Addr} {c : Nat} (l : List Rec) (hl : Yy w a (Z5 l)) (hlen : l.length ≤ 1000) (hp : Zch l = true) (hb : ∀ r ∈ l,I64 r.c.k ∧ -1 ≤ r.o ∧ r.o ≤ 100000) :
  Calls Ydz 15 #[.slice a l.length c] w fun e w' => e = .returned (.bool true) ∧ Zb No w w' := by
 unfold Zch at hp
 simp only [Bool.and_eq_true,decide_eq_true_eq] at hp
 obtain ⟨⟨hr,hlg⟩,hev⟩ := hp
 have hI : ∀ r ∈ Z8 l,I64 r.k := fun c hc => by
  obtain ⟨r,hm,rfl⟩ := Zks hc
  exact (hb r hm).1
 have hcl : (Z8 l).length ≤ 1000 := Yen (Zfg l) hlen
 have HR := Ydy (Zax (w:=w) (a:=a) (c:=c) l hl hlen hr (fun r hm => (hb r hm).2))
 have HC : Hid (∀ W,Zb No w W → Calls Ydz 13 #[.slice a l.length c] W fun e w' => ∃ a2 c2,e = .returned (.slice a2 (Z8 l).length c2) ∧ Calls Ydz 38 #[.slice a2 (Z8 l).length c2] w' fun e w' => e = .returned (.bool true) ∧ Zb No w w') := Ydy (fun W hW => (Zb6 l (hl.no hW) hlen hr (fun r hm => (hb r hm).2) (fun _ => 19) 14).mono fun e w' q => by
  obtain ⟨u,rfl,hG⟩ := q
  obtain ⟨a2,c2,rfl,hs⟩ := hG.src
  exact ⟨a2,c2,rfl,(Zoh _ hs hcl hlg hI hev).mono fun e w2 z => ⟨z.1,(hW.trans hG.only).trans z.2⟩⟩)
 clear hl hr hlg hev hI hcl hb
 go_enter Tryz.func15,Tryz.ntmps15
 go_wp2_with fail
 refine (HR.out).mono ?_
 rintro e w1 ⟨rfl,h1⟩
 have H1 := Ydy (HC.out _ h1)
 clear h1 HR HC
 go_wp2_with fail
 refine (H1.out).mono ?_
 rintro e w2 ⟨a2,c2,rfl,h2⟩
 have H2 := Ydy h2
 clear h2 H1
 go_wp2_with fail
 refine (H2.out).mono ?_
 rintro e w3 ⟨rfl,h3⟩
 have H3 := Ydy h3
 clear h3 H2
 go_wp2
 go_ret
 exact ⟨rfl,H3.out⟩
end
end Go.Proofs.YtdkhbegheognnaaGreatDoor.W

/- Part of the proof of TopEvicts, joined by a program of the session: Mbo Mbp Mce Mcf. -/
import Derived.Test.YtdkhbegheognnaaGreatDoorJ17
namespace Go.Proofs.YtdkhbegheognnaaGreatDoor.W
open Go.RowKit Go.Maps
open _root_.Go.Proofs.Tryz renaming prog → Ydz
open Ext renaming refl → Yd0
open _root_.List renaming range → Yd1, getElem?_eq_getElem → Yd2, getElem?_map → Yd3, getElem?_eq_none → Yd4, length_singleton → Yd5, length_append → Yd8, length_map → Yd9, getElem?_range → Yec
open _root_.Nat renaming le_refl → Yd6, lt_of_lt_of_le → Yea, zero_le → Yeb
open Zb renaming refl → Yd7
set_option maxHeartbeats 4000000
set_option maxRecDepth 100000
variable {N M K x n p ex px rx wx k : Nat}
variable {ps : List (List Op)}
variable {own own' : Nat → Nat}
variable {w w' W' : World}
variable {v u : Value}
variable {L : ML}
variable {s : St}
variable {S : Nat → Prop}
variable {a : Option Addr}
variable {R : Value → World → Prop}
variable {c : Cfg}
variable {km : Option Nat}
variable {l : List Op}
variable {xs : List Value}
section
attribute [local go_sem] World.setCell_drew Zg Zf
def Zav (tx : Nat → Nat) (n : Nat) : List Value := (Yd1 n).map fun i => Pt (tx i)
structure Qr (N M K : Nat) (ps : List (List Op)) (own : Nat → Nat) (w : World) (x : Nat) (v : Value) (L : ML) (s : St) (n : Nat) : Prop where
 m : MAt own w L s
 i : J9 N M K ps s
 t : Zhp s
 cn : L.cn ≤ 4 * n
 wn : L.wn ≤ s.recs.length
 err : Err.ErrType w
 o0 : own 0 = 19
 ox : own x = 19
 bx : w.heap[x]? = some (.cells #[Pt L.p,v] 68 (0,0))
 row : Row own 19 w 70 1 v s.ths.length (Zav L.tx s.ths.length)
theorem Qr.moved (h : Qr N M K ps own w x v L s n) (he : Ext w own own') (ho : Zb S w w') (hS : ∀ b,S b → own b ≠ 19) {L' : ML} {s' : St} {n' : Nat} (hm : MAt own' w' L' s') (hi : J9 N M K ps s') (ht : Zhp s') (hc : L'.cn ≤ 4 * n') (hw : L'.wn ≤ s'.recs.length) (hp : L'.p = L.p) (htx : L'.tx = L.tx) (hl : s'.ths.length = s.ths.length) : Qr N M K ps own' w' x v L' s' n' := by
 have hn : ∀ b,own b = 19 → ¬ S b := fun b hb hs => hS b hs hb
 have h00 : 0 < w.heap.size := World.block_lt_of_cell? w _ h.err
 refine ⟨hm,hi,ht,hc,hw,Zd h.err ho (hn 0 h.o0),(he 0 h00).trans h.o0,(he _ (Ze h.bx)).trans h.ox,by rw [hp]; exact ho.kept h.bx (hn _ h.ox),?_⟩
 rw [hl,htx]
 exact h.row.kept he ho (fun b _ hb => hn b hb)
theorem Qr.no (h : Qr N M K ps own w x v L s n) (ho : Zb No w w') : Qr N M K ps own w' x v L s n :=
 h.moved (Yd0 _ _) ho (fun _ e => (e : False).elim) (h.m.no ho) h.i h.t h.cn h.wn rfl rfl rfl
theorem Qr.row_get (h : Qr N M K ps own w x v L s n) : (v = .slice none 0 0 ∧ s.ths.length = 0) ∨ ∃ g cap,v = .slice (some ⟨g,0,none⟩) s.ths.length cap ∧ ∀ i,i < s.ths.length → w.cell? ⟨g,i,none⟩ = some (Pt (L.tx i)) := by
 rcases h.row.form with ⟨h1,h2,_⟩ | ⟨g,cap,h1,_,_,_,_,_,h5⟩
 ·exact .inl ⟨h1,h2⟩
 ·refine .inr ⟨g,cap,h1,fun i hi => h5 i _ ?_⟩
  unfold Zav
  rw [Yd3,Yec hi]
  rfl
theorem Zzd {i : Nat} {t : Th} {s' : St} (tr : Tr s i t s') : s.recs.length + (if t.ph = 4 then 1 else 0) ≤ s'.recs.length := by
 by_cases h4 : t.ph = 4
 ·rw [if_pos h4]
  cases tr <;> first | omega | (simp only [Zl,Z9,Yd8,Yd5]; omega)
 ·rw [if_neg h4]
  cases tr <;> first | exact Yd6 _ | (simp only [Zl,Z9,Yd8,Yd5]; omega)
theorem Qr.step (h : Qr N M K ps own w x v L s n) (hN : N ≤ 300) (hK : K ≤ 1000) (hn : n ≤ 200000) (hps : ∀ p ∈ ps,p.length ≤ 1000) {i : Nat} {t : Th} (ht : s.ths[i]? = some t) :
  Calls Ydz 28 #[Pt x,.int .i64 (i : Int)] w fun e w' => (∃ b,e = .returned (.bool b)) ∧ ∃ own' L',Qr N M K ps own' w' x v L' (W.step s i) (n + 1) ∧ Ext w own own' ∧ Zb (NG own) w w' := by
 have hi := Znl ht
 have hk := h.i.k
 have hc := h.cn
 have hw := h.wn
 have hpl : ∀ (j : Nat) (u : Th),s.ths[j]? = some u → u.prog.length ≤ 1000 := fun j u hu => hps _ (by
  have := h.i.p.a.progs
  rw [← this]
  exact List.mem_map.2 ⟨u,List.mem_of_getElem? hu,rfl⟩)
 have tr := h.i.p.tr ht
 have hst : W.step s i = Yu s i t := by unfold W.step; rw [ht]
 have hr := Zzd tr
 rcases h.row_get with ⟨_,h0⟩ | ⟨g,cap,hv,hg⟩
 ·omega
 ·have z := Zwi (N:=N) (ps:=ps) ⟨h.m,h.i.p,h.t,hN,by omega,by omega,by omega,by omega,h.err,h.o0,hpl⟩ ht
  refine Znz (g:=g) (n:=s.ths.length) (cap:=cap) (tk:=L.tx i) ((Za h.bx rfl).trans (by rw [hv]; rfl)) hi (hg i hi) (Ydy (z.mono fun e w' r => ⟨r.1,?_⟩))
  obtain ⟨own',L',q⟩ := r.2.bs
  have hm := q.mat
  rw [← hst] at hm
  have hcn := q.cn
  have hwn := q.wn
  exact ⟨own',L',h.moved q.ext q.only (fun b e => e) hm (h.i.step (by omega) i).1 (h.t.step h.i.p ht tr) (by omega) (by omega) q.p q.tx (Zwk h.i.p i),q.ext,q.only⟩
theorem Zuy (own : Nat → Nat) {f : Nat → Bool} (hx1 : w.cell? ⟨x,1,none⟩ = some (.slice none 0 0)) : Calls Ydz 27 #[Pt x] w fun e w' => ∃ u,e = .returned u ∧ Yd own w 10 4 1 0 (Vc ((Yd1 0).map f)) u w' := by
 have H0 : Hid (Yd own w 10 4 1 0 (Vc ((Yd1 0).map f)) (.slice none 0 0) w) := Ydy (Yd.nil own w 10 4 1 (Yd7 _ _))
 go_enter Tryz.func27,Tryz.ntmps27
 go_wp2
 refine wp_loop_rounds 1 ?_
 rw [rounds_succ]
 go_wp2
 go_ret
 exact ⟨_,rfl,H0.out⟩
theorem Zlg (s : St) : Xm s = (Yd1 s.ths.length).map fun i => decide (((s.ths[i]?.map Th.op).getD 0) < ((s.ths[i]?.map (fun t => t.prog.length)).getD 0)) := by
 apply List.ext_getElem?
 intro j
 unfold Xm
 rw [Yd3,Yd3]
 by_cases hj : j < s.ths.length
 ·rw [Yec hj]
  simp [Yd2 hj]
 ·rw [Yd4 (by omega),Yd4 (by simp; omega)]
  rfl
theorem Qr.left (h : Qr N M K ps own w x v L s n) (own2 : Nat → Nat) : Calls Ydz 27 #[Pt x] w fun e w' => ∃ u,e = .returned u ∧ Yd own2 w 10 4 1 (Xm s).length (Vc (Xm s)) u w' := by
 have hlen : (Xm s).length = s.ths.length := by unfold Xm; rw [Yd9]
 rw [hlen,Zlg s]
 have hfew := h.m.few
 rcases h.row_get with ⟨hv,h0⟩ | ⟨g,cap,hv,hg⟩
 ·rw [h0]
  exact Zuy own2 ((Za h.bx rfl).trans (by rw [hv]; rfl))
 ·refine Zra own2 (g:=g) (n:=s.ths.length) (cap:=cap) (tx:=L.tx) ((Za h.bx rfl).trans (by rw [hv]; rfl)) hfew hg (fun i hi => ?_)
  have ht : s.ths[i]? = some s.ths[i] := Yd2 hi
  have T := h.m.ths i _ ht
  rw [ht]
  refine ⟨Za T.block rfl,?_⟩
  rcases T.prog.form with ⟨h1,h2,_⟩ | ⟨g',cap',h1,_⟩
  ·exact ⟨none,0,(Za T.block rfl).trans (by rw [h1]; show some _ = some (Value.slice none (s.ths[i]).prog.length 0); rw [h2]; rfl)⟩
  ·exact ⟨_,_,(Za T.block rfl).trans (by rw [h1]; rfl)⟩
def Zw8 (N M K : Nat) (ps : List (List Op)) (own : Nat → Nat) (w : World) (x : Nat) (v : Value) (l : List Int) (s : St) (n0 most k : Nat) (wr : World) : Prop := ∃ own' L' s',Qr N M K ps own' wr x v L' s' (n0 + k) ∧ Ext w own own' ∧ Zb (NG own) w wr ∧ Qt l s 0 most = Qt l s' k (most - k)
def Za8 (own : Nat → Nat) (w : World) (a : Option Addr) (l : List Int) : Prop := ∀ (j : Nat) (z : Int),l[j]? = some z → ∃ ad,a = some ad ∧ w.cell? (ad.add j) = some (.int .i64 z) ∧ own (ad.add j).block = 19
theorem Za8.kept {l : List Int} (h : Za8 own w a l) (he : Ext w own own') (ho : Zb (NG own) w w') : Za8 own' w' a l := fun j z hz => by
 obtain ⟨ad,h1,h2,h3⟩ := h j z hz
 exact ⟨ad,h1,Zd h2 ho (fun e => e h3),(he _ (World.block_lt_of_cell? w _ h2)).trans h3⟩
theorem Zj3 {n0 : Nat} (h : Qr N M K ps own w x v L s n0) (hN : N ≤ 300) (hK : K ≤ 1000) (hps : ∀ p ∈ ps,p.length ≤ 1000) {cap : Nat} (l : List Int) (hl : Za8 own w a l) (hll : l.length ≤ 100000) (most : Nat) (hm : most ≤ 100000) (hm0 : 0 < most) (hn0 : n0 + most ≤ 200000) :
  Calls Ydz 7 #[Pt x,.slice a l.length cap,.int .i64 (most : Int)] w fun e w' => e = .returned (.int .i64 ((Qt l s 0 most).2 : Int)) ∧ ∃ own' L',Qr N M K ps own' w' x v L' (Qt l s 0 most).1 (n0 + most) ∧ Ext w own own' ∧ Zb (NG own) w w' := by
 have H0 := Ydy h
 have HL := Ydy hl
 have HPS := Ydy hps
 clear h hl hps
 have hmx : (if (0 : Int) < (most : Int) then (most : Int) else 0) = (most : Int) := if_pos (by omega)
 go_enter Tryz.func7,Tryz.ntmps7
 go_wp2
 have HR0 : Hid (Zw8 N M K ps own w x v l s n0 most 0 w) := Ydy ⟨own,L,s,H0.out,Yd0 _ _,Yd7 _ _,rfl⟩
 go_loopw [12] (fun i wr => ∃ k : Nat,k ≤ most ∧ i = .int .i64 (k : Int) ∧ Zw8 N M K ps own w x v l s n0 most k wr) (fun i _ => most - (intOf i).toNat)
 case atStart => exact ⟨0,Yeb _,rfl,HR0.out⟩
 case round =>
  obtain ⟨k,hk,rfl,own',L',s',hI,hE,hO,hV⟩ := hrel
  by_cases hlt : k < most
  ·have hkb : decide ((k : Int) < (most : Int)) = true := decide_eq_true (by omega)
   by_cases hz : l.length = 0
   ·have hzb : decide (0 < l.length) = false := decide_eq_false (by omega)
    have HZ : Hid ((if l.length = 0 then 0 else l.getD (k % l.length) 0) = (0 : Int)) := Ydy (if_pos hz)
    clear hz
    have P := Ydy (hI.left own)
    have ST : Hid (∀ (w2 : World) (j : Nat),Zb No wr w2 → Ql 0 (Xm s') = some j → Calls Ydz 28 #[Pt x,.int .i64 (j : Int)] w2 fun e w' => (∃ b,e = .returned (.bool b)) ∧ Zw8 N M K ps own w x v l s n0 most (k + 1) w') := Ydy (fun w2 j ho hj => by
     have hI2 := hI.no ho
     obtain ⟨t,ht,_⟩ := Vu.1 (Vw hj)
     refine (hI2.step hN hK (by omega) HPS.out ht).mono fun e w' r => ⟨r.1,?_⟩
     obtain ⟨own2,L2,r1,r2,r3⟩ := r.2
     refine ⟨own2,L2,_,r1,hE.trans hO.size (fun b hb => r2 b (Yea hb ho.size)),hO.then ((Zb.no ho).trans r3) (fun b hb e => ?_),?_⟩
     ·have e' : own' b ≠ 19 := e
      show own b ≠ 19
      rw [← hE b hb]; exact e'
     ·rw [hV,show most - k = (most - (k + 1)) + 1 from by omega,Zbk (by rw [HZ.out]; exact hj)])
    have NO : Hid (∀ w2,Zb No wr w2 → Ql 0 (Xm s') = none → Qt l s 0 most = (s',k) ∧ ∃ own' L',Qr N M K ps own' w2 x v L' s' (n0 + most) ∧ Ext w own own' ∧ Zb (NG own) w w2) := Ydy (fun w2 ho hj => by
     have hI2 := hI.no ho
     refine ⟨by rw [hV,show most - k = (most - (k + 1)) + 1 from by omega,Ku (by rw [HZ.out]; exact hj)],own',L',?_,hE,hO.trans (Zb.no ho)⟩
     have hc := hI2.cn
     exact { hI2 with cn := by omega })
    have hfew := hI.m.few
    have hll2 : (Xm s').length ≤ 1000 := by unfold Xm; rw [Yd9]; omega
    clear hI hE hO hV
    go_wp2_with fail
    refine (P.out).mono ?_
    rintro e w2 ⟨u,rfl,hG⟩
    have PG := Ydy (Zip hG hll2 0)
    have HO2 := Ydy hG.only
    clear hG P
    generalize hnx : Ql 0 (Xm s') = nx at *
    cases nx with
    | none =>
     have NO2 := Ydy (NO.out w2 HO2.out rfl)
     simp only [Zio] at PG
     clear NO ST hnx
     go_wp2_with fail
     refine (PG.out).mono ?_
     rintro e w3 ⟨rfl,rfl⟩
     go_wp2
     go_ret
     obtain ⟨y1,y2⟩ := NO2.out
     rw [y1]
     exact ⟨rfl,y2⟩
    | some j =>
     have ST2 := Ydy (ST.out w2 j HO2.out rfl)
     simp only [Zio] at PG
     have hj0 : ¬ ((j : Int) < 0) := by omega
     clear NO ST hnx
     go_wp2_with fail
     refine (PG.out).mono ?_
     rintro e w3 ⟨rfl,rfl⟩
     go_wp2_with fail
     refine (ST2.out).mono ?_
     rintro e w4 ⟨⟨b,rfl⟩,h4⟩
     have H4 := Ydy h4
     clear h4 ST2 PG
     go_wp2
     go_roundw
     case rel => exact ⟨k + 1,by omega,by go_num,H4.out⟩
     case measure => simp [intOf]; omega
   ·have hzb : decide (0 < l.length) = true := decide_eq_true (by omega)
    have hkm : k % l.length < l.length := Nat.mod_lt _ (by omega)
    obtain ⟨z,hz1⟩ : ∃ z,l[k % l.length]? = some z := ⟨_,Yd2 hkm⟩
    have HZ : Hid ((if l.length = 0 then 0 else l.getD (k % l.length) 0) = z) := Ydy (by rw [if_neg hz,List.getD_eq_getElem?_getD,hz1]; rfl)
    obtain ⟨ad,had,hcell,_⟩ := (HL.out.kept hE hO) _ _ hz1
    subst had
    have hmod : Int.tmod (k : Int) (l.length : Int) = ((k % l.length : Nat) : Int) := rfl
    have hb0 : (0 : Int) ≤ ((k % l.length : Nat) : Int) := by omega
    have hb1 : ((k % l.length : Nat) : Int) < (l.length : Int) := by omega
    have hzi : ((l.length : Int) == 0) = false := beq_eq_false_iff_ne.2 (by omega)
    revert HZ hz1 hkm hcell hmod hb0 hb1
    generalize hkk : k % l.length = km
    intro hkm hz1 HZ hcell hmod hb0 hb1
    have P := Ydy (hI.left own)
    have ST : Hid (∀ (w2 : World) (j : Nat),Zb No wr w2 → Ql z (Xm s') = some j → Calls Ydz 28 #[Pt x,.int .i64 (j : Int)] w2 fun e w' => (∃ b,e = .returned (.bool b)) ∧ Zw8 N M K ps own w x v l s n0 most (k + 1) w') := Ydy (fun w2 j ho hj => by
     have hI2 := hI.no ho
     obtain ⟨t,ht,_⟩ := Vu.1 (Vw hj)
     refine (hI2.step hN hK (by omega) HPS.out ht).mono fun e w' r => ⟨r.1,?_⟩
     obtain ⟨own2,L2,r1,r2,r3⟩ := r.2
     refine ⟨own2,L2,_,r1,hE.trans hO.size (fun b hb => r2 b (Yea hb ho.size)),hO.then ((Zb.no ho).trans r3) (fun b hb e => ?_),?_⟩
     ·have e' : own' b ≠ 19 := e
      show own b ≠ 19
      rw [← hE b hb]; exact e'
     ·rw [hV,show most - k = (most - (k + 1)) + 1 from by omega,Zbk (by rw [hkk,HZ.out]; exact hj)])
    have NO : Hid (∀ w2,Zb No wr w2 → Ql z (Xm s') = none → Qt l s 0 most = (s',k) ∧ ∃ own' L',Qr N M K ps own' w2 x v L' s' (n0 + most) ∧ Ext w own own' ∧ Zb (NG own) w w2) := Ydy (fun w2 ho hj => by
     have hI2 := hI.no ho
     refine ⟨by rw [hV,show most - k = (most - (k + 1)) + 1 from by omega,Ku (by rw [hkk,HZ.out]; exact hj)],own',L',?_,hE,hO.trans (Zb.no ho)⟩
     have hc := hI2.cn
     exact { hI2 with cn := by omega })
    have hfew := hI.m.few
    have hll2 : (Xm s').length ≤ 1000 := by unfold Xm; rw [Yd9]; omega
    clear hI hE hO hV
    go_wp2_with fail
    refine (P.out).mono ?_
    rintro e w2 ⟨u,rfl,hG⟩
    have PG := Ydy (Zip hG hll2 z)
    have HO2 := Ydy hG.only
    clear hG P
    generalize hnx : Ql z (Xm s') = nx at *
    cases nx with
    | none =>
     have NO2 := Ydy (NO.out w2 HO2.out rfl)
     simp only [Zio] at PG
     clear NO ST hnx
     go_wp2_with fail
     refine (PG.out).mono ?_
     rintro e w3 ⟨rfl,rfl⟩
     go_wp2
     go_ret
     obtain ⟨y1,y2⟩ := NO2.out
     rw [y1]
     exact ⟨rfl,y2⟩
    | some j =>
     have ST2 := Ydy (ST.out w2 j HO2.out rfl)
     simp only [Zio] at PG
     have hj0 : ¬ ((j : Int) < 0) := by omega
     clear NO ST hnx
     go_wp2_with fail
     refine (PG.out).mono ?_
     rintro e w3 ⟨rfl,rfl⟩
     go_wp2_with fail
     refine (ST2.out).mono ?_
     rintro e w4 ⟨⟨b,rfl⟩,h4⟩
     have H4 := Ydy h4
     clear h4 ST2 PG
     go_wp2
     go_roundw
     case rel => exact ⟨k + 1,by omega,by go_num,H4.out⟩
     case measure => simp [intOf]; omega
  ·have hk2 : k = most := by omega
   subst hk2
   have HF : Hid (Qt l s 0 k = (s',k) ∧ ∃ own' L',Qr N M K ps own' wr x v L' s' (n0 + k) ∧ Ext w own own' ∧ Zb (NG own) w wr) := Ydy ⟨by rw [hV,Nat.sub_self]; rfl,own',L',hI,hE,hO⟩
   clear hI hE hO hV
   go_wp2
   go_ret
   obtain ⟨y1,y2⟩ := HF.out
   rw [y1]
   exact ⟨rfl,y2⟩
theorem Zrt (c0 : w.cell? ⟨x,0,none⟩ = some (Pt p)) (c7 : w.cell? ⟨p,7,none⟩ = some v) (HC : Hid (Calls Ydz 37 #[v] w fun e w' => ∃ u,e = .returned u ∧ R u w')) :
  Calls Ydz 14 #[Pt x] w fun e w' => ∃ u,e = .returned u ∧ R u w' := by
 go_enter Tryz.func14,Tryz.ntmps14
 go_wp2_with fail
 refine (HC.out).mono ?_
 rintro e w1 ⟨u,rfl,h⟩
 go_wp2
 go_ret
 exact ⟨u,rfl,h⟩
theorem Zud (c0 : w.cell? ⟨x,0,none⟩ = some (Pt p)) (c8 : w.cell? ⟨p,8,none⟩ = some v) (HC : Hid (Calls Ydz 35 #[v] w fun e w' => ∃ u,e = .returned u ∧ R u w')) :
  Calls Ydz 11 #[Pt x] w fun e w' => ∃ u,e = .returned u ∧ R u w' := by
 go_enter Tryz.func11,Tryz.ntmps11
 go_wp2_with fail
 refine (HC.out).mono ?_
 rintro e w1 ⟨u,rfl,h⟩
 go_wp2
 go_ret
 exact ⟨u,rfl,h⟩
theorem Zr7 {cx : Nat} {s : Int} {R : World → Prop} (c0 : w.cell? ⟨x,0,none⟩ = some (Pt p)) (c5 : w.cell? ⟨p,5,none⟩ = some (Pt cx)) (HC : Hid (Calls Ydz 48 #[Pt cx,.int .i64 0,.int .i64 0] w fun r w' => r = .returned (.tuple #[.int .i64 s,.int .i64 0]) ∧ R w')) :
  Calls Ydz 19 #[Pt x] w fun e w' => e = .returned (.int .i64 s) ∧ R w' := by
 go_enter Tryz.func19,Tryz.ntmps19
 go_wp2_with fail
 refine (HC.out).mono ?_
 rintro e w1 ⟨rfl,h⟩
 go_wp2
 go_ret
 exact ⟨rfl,h⟩
theorem Zv0 (l : List Rec) : ∀ u ∈ Z5 l,u.oneCell' = true := by
 intro u hu
 obtain ⟨e,_,h⟩ := List.mem_flatMap.1 hu
 simp only [V8,List.mem_cons,List.not_mem_nil,or_false] at h
 rcases h with rfl | rfl | rfl | rfl | rfl | rfl | rfl | rfl <;> rfl
theorem Qr.records (h : Qr N M K ps own w x v L s n) (hK : K ≤ 1000) : Calls Ydz 14 #[Pt x] w fun e w' => ∃ u,e = .returned u ∧ Yd own w 11 98 8 s.recs.length (Z5 s.recs) u w' := by
 have hk := h.i.k
 exact Zrt (Za h.bx rfl) (Za h.m.parts rfl) (Ydy ((Zxi own 11 h.m.recs.src (Zv0 _) (by omega)).mono fun e w' q => by
  obtain ⟨u,own',q1,q2,q3,q4,q5⟩ := q
  exact ⟨u,q1,own',q2,q3,q4,q5⟩))
theorem Qr.events (h : Qr N M K ps own w x v L s n) (hK : K ≤ 1000) : Calls Ydz 11 #[Pt x] w fun e w' => ∃ u,e = .returned u ∧ Yd own w 12 93 4 s.evs.length (Qu s.evs) u w' := by
 have hk := h.i.k
 exact Zud (Za h.bx rfl) (Za h.m.parts rfl) (Ydy ((Zxh own 12 h.m.evs.src (Zm9 _) (by omega)).mono fun e w' q => by
  obtain ⟨u,own',q1,q2,q3,q4,q5⟩ := q
  exact ⟨u,q1,own',q2,q3,q4,q5⟩))
theorem Qr.status (h : Qr N M K ps own w x v L s n) (hn : n ≤ 200000) : Calls Ydz 19 #[Pt x] w fun e w' => e = .returned (.int .i64 s.status) ∧ ∃ own' L',Qr N M K ps own' w' x v L' s (n + 1) ∧ Ext w own own' ∧ Zb (NG own) w w' := by
 have hc := h.cn
 refine Zr7 (Za h.bx rfl) (Za h.m.parts rfl) (Ydy ((Zts h.m.ce (by omega) 0).mono fun e w' q => ⟨q.1,?_⟩))
 obtain ⟨own',L',z⟩ := (h.m.ceq (Sm.refl _) q.2 (Yd6 _)).bs
 have hcn := z.cn
 have hwn := z.wn
 have hw := h.wn
 have hm : MAt own' w' L' s := z.mat
 exact ⟨own',L',h.moved z.ext z.only (fun b e => e) hm h.i h.t (by omega) (by omega) z.p z.tx rfl,z.ext,z.only⟩
theorem Zno (k : Nat) : Y1 ((Yd1 (k + 1)).map fun (i : Nat) => (i : Int)) = Y1 ((Yd1 k).map fun (i : Nat) => (i : Int)) ++ [.int .i64 (k : Int)] := by
 simp [Y1,List.range_succ]
theorem Zrv (own : Nat → Nat) (lb : Nat) (T : Nat) (h1 : 1 ≤ T) (h2 : T ≤ 1000) (w : World) : Calls Ydz 29 #[.int .i64 (T : Int),.int .i64 1] w fun e w' => ∃ u,e = .returned u ∧ Yd own w lb 3 1 T (Y1 ((Yd1 T).map fun (i : Nat) => (i : Int))) u w' := by
 have d1 : ¬ ((T : Int) < 1) := by omega
 have d2 : ¬ ((65536 : Int) < (T : Int)) := by omega
 have H0 : Hid (Yd own w lb 3 1 0 (Y1 ((Yd1 0).map fun (i : Nat) => (i : Int))) (.slice none 0 0) w) := Ydy (Yd.nil own w lb 3 1 (Yd7 _ _))
 go_enter Tryz.func29,Tryz.ntmps29
 go_wp2
 refine wp_loop_rounds 2 ?_
 rw [rounds_succ]
 go_wp2
 go_loopw [5,23] (fun v i wr => ∃ k : Nat,k ≤ T ∧ i = .int .i64 (k : Int) ∧ Yd own w lb 3 1 k (Y1 ((Yd1 k).map fun (i : Nat) => (i : Int))) v wr) (fun _ i _ => T - (intOf i).toNat)
 case atStart => exact ⟨0,Yeb _,rfl,H0.out⟩
 case round =>
  obtain ⟨k,hk,rfl,hG⟩ := hrel
  by_cases hlt : k < T
  ·have hkb : decide ((k : Int) < (T : Int)) = true := decide_eq_true (by omega)
   obtain ⟨own',hA,hB⟩ := hG.app
   have HA := Ydy hA
   have HB := Ydy hB
   clear hA hB hG
   go_wp2_with (at_builtin; refine Xx (by rfl) _ _ _ (by rfl) Zd1 (by rfl) (HA.out _ ((Yd7 No wr).alloc _)) (B:=wr.heap.size) (c:=1) (cs:=#[.int .i64 (k : Int)]) (tb:=3) (fr:=(0,0)) (by rfl) (Zh _ _) (by rfl) (by simp [Value.oneCell']) (by omega) ?_; intro g4 cap4 w4 r4 hg4 hor hsz; have R4 := Ydy (HB.out _ _ _ _ _ ((Yd7 No wr).alloc _) r4 hg4 hor); clear r4 hg4 hor hsz)
   go_roundw
   case rel => exact ⟨k + 1,by omega,by go_num,by rw [Zno]; exact R4.out⟩
   case measure => simp [intOf]; omega
  ·have hkn : k = T := by omega
   subst hkn
   have hG' := Ydy hG
   clear hG
   go_wp2
   rw [rounds_succ]
   go_wp2
   go_ret
   exact ⟨_,rfl,hG'.out⟩
theorem Yd.picks {wr : World} {l : List Int} (h : Yd own w 19 3 1 l.length (Y1 l) v wr) : ∃ own' a cap,Ext w own own' ∧ Zb No w wr ∧ v = .slice a l.length cap ∧ Za8 own' wr a l := by
 obtain ⟨own',h1,h2,h3,_⟩ := h
 rcases h2.form with ⟨rfl,h0,_⟩ | ⟨g,cap,rfl,hg,_,_,_,_,hc⟩
 ·have hl : l = [] := List.length_eq_zero_iff.1 h0
  subst hl
  exact ⟨own',none,0,h1,h3,rfl,fun j z hz => by simp at hz⟩
 ·refine ⟨own',some ⟨g,0,none⟩,cap,h1,h3,rfl,fun j z hz => ⟨_,rfl,?_,?_⟩⟩
  ·rw [Qs,Nat.zero_add]
   exact hc j _ (by unfold Y1; rw [Yd3,hz]; rfl)
  ·rw [Qs]
   exact hg
def Jt (T : Nat) : List Int := (Yd1 (if T = 0 then 1 else T)).map fun (i : Nat) => (i : Int)
theorem Zua {th t1 : Int} {R1 R2 : World → Prop} (hmx : (if th < 1 then 1 else th) = t1)
  (HR : Hid (Calls Ydz 29 #[.int .i64 t1,.int .i64 1] w fun e w' => ∃ a n c,e = .returned (.slice a n c) ∧ Calls Ydz 7 #[Pt x,.slice a n c,.int .i64 100000] w' fun e w'' => (∃ k,e = .returned (.int .i64 k)) ∧ R1 w''))
  (HL : Hid (∀ w1,R1 w1 → Calls Ydz 27 #[Pt x] w1 fun e w' => ∃ a n cap,e = .returned (.slice a n cap) ∧ n ≤ 1000 ∧ (∀ i,i < n → ∃ g,a = some ⟨g,0,none⟩ ∧ w'.cell? ⟨g,i,none⟩ = some (.bool false)) ∧ R2 w')) :
  Calls Ydz 8 #[Pt x,.int .i64 th] w fun e w' => e = .returned (.bool true) ∧ R2 w' := by
 go_enter Tryz.func8,Tryz.ntmps8
 go_wp2_with fail
 refine (HR.out).mono ?_
 rintro e w1 ⟨a,n,c,rfl,hr⟩
 have HR1 := Ydy hr
 clear hr HR
 go_wp2_with fail
 refine (HR1.out).mono ?_
 rintro e w2 ⟨⟨k,rfl⟩,h2⟩
 have HL1 := Ydy (HL.out _ h2)
 clear HL HR1 h2 hmx
 go_wp2_with fail
 refine (HL1.out).mono ?_
 rintro e w3 ⟨a3,n3,c3,rfl,hn3,hc,h3⟩
 have HC := Ydy hc
 have H3 := Ydy h3
 clear hc h3 HL1
 go_wp2
 go_loopw [6] (fun i wr => ∃ k : Nat,k ≤ n3 ∧ i = .int .i64 (k : Int) ∧ wr = w3) (fun i _ => n3 - (intOf i).toNat)
 case atStart => exact ⟨0,Yeb _,rfl,rfl⟩
 case round =>
  obtain ⟨k,hk,rfl,rfl⟩ := hrel
  by_cases hlt : k < n3
  ·have hkb : decide ((k : Int) < (n3 : Int)) = true := decide_eq_true (by omega)
   have hk0 : (0 : Int) ≤ (k : Int) := by omega
   have hk1 : (k : Int) < (n3 : Int) := by omega
   obtain ⟨g,rfl,hcell⟩ := HC.out k hlt
   clear hk0
   go_wp2
   go_roundw
   case rel => exact ⟨k + 1,by omega,by go_num,by first | rfl | trivial⟩
   case measure => simp [intOf]; omega
  ·have hkn : k = n3 := by omega
   subst hkn
   go_wp2
   go_ret
   exact ⟨rfl,H3.out⟩
theorem Qr.endT {n0 : Nat} (h : Qr N M K ps own w x v L s n0) (hN : N ≤ 300) (hK : K ≤ 1000) (hps : ∀ p ∈ ps,p.length ≤ 1000) (hn0 : n0 ≤ 100000) (T : Nat) (hT : T ≤ 64) (hd : ∀ (i : Nat) (b : Bool),(Xm (Qt (Jt T) s 0 100000).1)[i]? = some b → b = false) :
  Calls Ydz 8 #[Pt x,.int .i64 (T : Int)] w fun e w' => e = .returned (.bool true) ∧ ∃ own' L',Qr N M K ps own' w' x v L' (Qt (Jt T) s 0 100000).1 (n0 + 100000) ∧ Ext w own own' ∧ Zb (NG own) w w' := by
 have hl : (Jt T).length = (if T = 0 then 1 else T) := by unfold Jt; simp
 have h1 : 1 ≤ (if T = 0 then 1 else T) := by split <;> omega
 have h2 : (if T = 0 then 1 else T) ≤ 64 := by split <;> omega
 refine Zua (t1:=((if T = 0 then 1 else T : Nat) : Int)) (R1:=fun w1 => ∃ own' L',Qr N M K ps own' w1 x v L' (Qt (Jt T) s 0 100000).1 (n0 + 100000) ∧ Ext w own own' ∧ Zb (NG own) w w1) (by by_cases h0 : T = 0 <;> simp [h0] <;> omega) (Ydy ((Zrv own 19 _ h1 (by omega) w).mono fun e w1 r => ?_)) (Ydy fun w1 q => ?_)
 ·obtain ⟨u,rfl,hG⟩ := r
  have hG' : Yd own w 19 3 1 (Jt T).length (Y1 (Jt T)) u w1 := by rw [hl]; exact hG
  obtain ⟨own1,a,cap,e1,o1,rfl,hp⟩ := hG'.picks
  refine ⟨_,_,_,rfl,?_⟩
  have H1 : Qr N M K ps own1 w1 x v L s n0 := h.moved e1 o1 (fun _ e => (e : False).elim) (h.m.kept e1 o1 (fun _ _ _ h => h)) h.i h.t h.cn h.wn rfl rfl rfl
  refine (Zj3 H1 hN hK hps (Jt T) hp (by omega) 100000 (by omega) (by omega) (by omega)).mono fun e w2 y => ⟨⟨_,y.1⟩,?_⟩
  obtain ⟨own2,L2,y1,y2,y3⟩ := y.2
  exact ⟨own2,L2,y1,e1.trans o1.size y2,(Zb.no o1).then y3 (fun b hb e => by
   have e' : own1 b ≠ 19 := e
   show own b ≠ 19
   rw [← e1 b hb]; exact e')⟩
 ·obtain ⟨own1,L1,q1,q2,q3⟩ := q
  refine (q1.left own1).mono fun e w2 r => ?_
  obtain ⟨u,rfl,hG⟩ := r
  have hG2 := hG
  obtain ⟨own2,g1,g2,g3,_⟩ := hG2
  have hfin : ∃ own' L',Qr N M K ps own' w2 x v L' (Qt (Jt T) s 0 100000).1 (n0 + 100000) ∧ Ext w own own' ∧ Zb (NG own) w w2 := ⟨own1,L1,q1.no g3,q2,q3.trans (Zb.no g3)⟩
  rcases g2.form with ⟨rfl,h0,_⟩ | ⟨g,cap,rfl,_,_,_,_,_,hc⟩
  ·exact ⟨_,_,_,rfl,by omega,fun i hi => by omega,hfin⟩
  ·refine ⟨_,_,_,rfl,by unfold Xm; rw [Yd9]; have := q1.m.few; omega,fun i hi => ⟨g,rfl,?_⟩,hfin⟩
   obtain ⟨b,hb⟩ : ∃ b,(Xm (Qt (Jt T) s 0 100000).1)[i]? = some b := ⟨_,Yd2 hi⟩
   have := hc i (.bool b) (by unfold Vc; rw [Yd3,hb]; rfl)
   rw [hd i b hb] at this
   exact this
def sh0 (c : Cfg) : Sh := ⟨c.seed,(Yt c.shards 1 6).toNat,[],0,[]⟩
def Zv4 (c : Cfg) : List Y8 := List.replicate (Yt c.stripes 1 6).toNat ⟨(Yt c.ring 1 12).toNat,[]⟩
def wr0 (c : Cfg) : Wr := ⟨(Yt c.writes 1 12).toNat,0,[]⟩
def Qm (own : Nat → Nat) (w : World) (c : Cfg) (n : Nat) (km : Option Nat) (ex px rx wx : Nat) (W : World) : Prop :=
 ∃ own' el pl rv rxs rcs wm,Ext w own own' ∧ Zb No w W ∧ (1 ≤ n → Y4 own' W ex el (sh0 c)) ∧ (2 ≤ n → Zv own' W px pl (Xn (Qg c.cap) c.seed)) ∧ (3 ≤ n → Ju own' W rx rv rxs rcs c.seed (Zv4 c)) ∧ (4 ≤ n → Kx own' W wx wm 0 (wr0 c)) ∧ (∀ m,km = some m → own' m = 4 ∧ w.heap.size ≤ m ∧ Zs W m (fun _ => none) 0)
theorem Qm.kept {W : World} (h : Qm own w c n km ex px rx wx W) (ho : Zb No W W') : Qm own w c n km ex px rx wx W' := by
 obtain ⟨own',el,pl,rv,rxs,rcs,wm,h1,h2,h3,h4,h5,h6,h7⟩ := h
 exact ⟨own',el,pl,rv,rxs,rcs,wm,h1,h2.trans ho,fun e => (h3 e).kept (Yd0 _ _) ho (fun _ _ _ h => h),fun e => (h4 e).kept (Yd0 _ _) ho (fun _ _ _ _ h => h),fun e => (h5 e).kept (Yd0 _ _) ho (fun _ _ _ h => h),fun e => (h6 e).kept (Yd0 _ _) ho (fun _ _ _ h => h),fun m e => ⟨(h7 m e).1,(h7 m e).2.1,(h7 m e).2.2.kept ho (fun h => h)⟩⟩
theorem Qm.sm {W : World} (h : Qm own w c n km ex px rx wx W) (hs : Sm W W') : Qm own w c n km ex px rx wx W' := h.kept hs.only
theorem Qm.start (own : Nat → Nat) (w : World) (c : Cfg) {W : World} (h : Zb No w W) : Qm own w c 0 none 0 0 0 0 W :=
 ⟨own,⟨.slice none 0 0,fun _ => 0,0,0,fun _ => none,0,0⟩,⟨0,⟨0,0,0,fun _ => 0,0,0⟩,0,0⟩,.slice none 0 0,fun _ => 0,fun _ => 0,0,Yd0 _ _,h,fun e => absurd e (by decide),fun e => absurd e (by decide),fun e => absurd e (by decide),fun e => absurd e (by decide),fun m e => nomatch e⟩
theorem Qm.made {W : World} (h : Qm own w c n none ex px rx wx W) : Qm own w c n (some W.heap.size) ex px rx wx (W.alloc (.map #[] 0)) := by
 obtain ⟨own',el,pl,rv,rxs,rcs,wm,h1,h2,h3,h4,h5,h6,_⟩ := h
 have hE : Ext W own' (lab own' W.heap.size 4) := (Yd0 W own').lab (Yd6 _) 4
 have hO : Zb No W (W.alloc (.map #[] 0)) := (Yd7 No W).alloc _
 refine ⟨lab own' W.heap.size 4,el,pl,rv,rxs,rcs,wm,h1.trans h2.size hE,h2.trans hO,fun e => (h3 e).kept hE hO (fun _ _ _ h => h),fun e => (h4 e).kept hE hO (fun _ _ _ _ h => h),fun e => (h5 e).kept hE hO (fun _ _ _ h => h),fun e => (h6 e).kept hE hO (fun _ _ _ h => h),fun m e => ?_⟩
 cases e
 exact ⟨Zn _ _ _,h2.size,Zs.made W⟩
theorem Qm.one {W : World} (h : Qm own w c 0 km ex px rx wx W) : Calls Ydz 20 #[.int .i64 c.shards,.int .i64 c.seed] W fun e w' => ∃ x,e = .returned (Pt x) ∧ Zb No W w' ∧ Qm own w c 1 km x px rx wx w' := by
 obtain ⟨own',el,pl,rv,rxs,rcs,wm,h1,h2,h3,h4,h5,h6,h7⟩ := h
 refine (Zof own' c.shards c.seed W).mono fun e w' q => ?_
 obtain ⟨x,l,own2,rfl,q2,q3,q4⟩ := q
 exact ⟨x,rfl,q4,own2,l,pl,rv,rxs,rcs,wm,h1.trans h2.size q2,h2.trans q4,fun _ => q3,fun e => absurd e (by decide),fun e => absurd e (by decide),fun e => absurd e (by decide),fun m e => ⟨(q2 m ((h7 m e).2.2.lt)).trans (h7 m e).1,(h7 m e).2.1,(h7 m e).2.2.kept q4 (fun h => h)⟩⟩
theorem Qm.two {W : World} (hc : c.cap ≤ 512) (h : Qm own w c 1 km ex px rx wx W) : Calls Ydz 9 #[.int .i64 c.cap,.int .i64 c.seed] W fun e w' => ∃ x,e = .returned (Pt x) ∧ Zb No W w' ∧ Qm own w c 2 km ex x rx wx w' := by
 obtain ⟨own',el,pl,rv,rxs,rcs,wm,h1,h2,h3,h4,h5,h6,h7⟩ := h
 refine (Zg4 own' c.cap c.seed hc W).mono fun e w' q => ?_
 obtain ⟨x,l,own2,rfl,q2,q3,q4⟩ := q
 exact ⟨x,rfl,q4,own2,el,l,rv,rxs,rcs,wm,h1.trans h2.size q2,h2.trans q4,fun _ => (h3 (by decide)).kept q2 q4 (fun _ _ _ h => h),fun _ => q3,fun e => absurd e (by decide),fun e => absurd e (by decide),fun m e => ⟨(q2 m ((h7 m e).2.2.lt)).trans (h7 m e).1,(h7 m e).2.1,(h7 m e).2.2.kept q4 (fun h => h)⟩⟩
theorem Qm.three {W : World} (h : Qm own w c 2 km ex px rx wx W) : Calls Ydz 21 #[.int .i64 c.stripes,.int .i64 c.ring,.int .i64 c.seed] W fun e w' => ∃ x,e = .returned (Pt x) ∧ Zb No W w' ∧ Qm own w c 3 km ex px x wx w' := by
 obtain ⟨own',el,pl,rv,rxs,rcs,wm,h1,h2,h3,h4,h5,h6,h7⟩ := h
 refine (Zl7 own' c.stripes c.ring c.seed W).mono fun e w' q => ?_
 obtain ⟨x,v,xs,cs,own2,rfl,q2,q3,q4⟩ := q
 exact ⟨x,rfl,q4,own2,el,pl,v,xs,cs,wm,h1.trans h2.size q2,h2.trans q4,fun _ => (h3 (by decide)).kept q2 q4 (fun _ _ _ h => h),fun _ => (h4 (by decide)).kept q2 q4 (fun _ _ _ _ h => h),fun _ => q3,fun e => absurd e (by decide),fun m e => ⟨(q2 m ((h7 m e).2.2.lt)).trans (h7 m e).1,(h7 m e).2.1,(h7 m e).2.2.kept q4 (fun h => h)⟩⟩
theorem Qm.four {W : World} (h : Qm own w c 3 km ex px rx wx W) : Calls Ydz 22 #[.int .i64 c.writes] W fun e w' => ∃ x,e = .returned (Pt x) ∧ Zb No W w' ∧ Qm own w c 4 km ex px rx x w' := by
 obtain ⟨own',el,pl,rv,rxs,rcs,wm,h1,h2,h3,h4,h5,h6,h7⟩ := h
 refine (Yde own' c.writes W).mono fun e w' q => ?_
 obtain ⟨x,m,own2,rfl,q2,q3,q4⟩ := q
 exact ⟨x,rfl,q4,own2,el,pl,rv,rxs,rcs,m,h1.trans h2.size q2,h2.trans q4,fun _ => (h3 (by decide)).kept q2 q4 (fun _ _ _ h => h),fun _ => (h4 (by decide)).kept q2 q4 (fun _ _ _ _ h => h),fun _ => (h5 (by decide)).kept q2 q4 (fun _ _ _ h => h),fun _ => q3,fun m e => ⟨(q2 m ((h7 m e).2.2.lt)).trans (h7 m e).1,(h7 m e).2.1,(h7 m e).2.2.kept q4 (fun h => h)⟩⟩
def Zn4 (c : Cfg) (km ex px rx wx : Nat) (cv : Value) : Obj := .cells #[.int .i64 (Qg c.cap),Pt ex,Pt px,Pt rx,Pt wx,cv,.map (some km),.slice none 0 0,.slice none 0 0] 63
def Zje (own : Nat → Nat) (w : World) (c : Cfg) (p km ex px rx wx : Nat) (W : World) : Prop :=
 ∃ own' el pl rv rxs rcs wm,Ext w own own' ∧ Zb No w W ∧ Y4 own' W ex el (sh0 c) ∧ Zv own' W px pl (Xn (Qg c.cap) c.seed) ∧ Ju own' W rx rv rxs rcs c.seed (Zv4 c) ∧ Kx own' W wx wm 0 (wr0 c) ∧ own' km = 4 ∧ Zs W km (fun _ => none) 0 ∧ own' p = 0 ∧ w.heap.size ≤ p ∧ W.heap[p]? = some (Zn4 c km ex px rx wx (.pointer none))
theorem Qm.parts {W : World} {km : Nat} (h : Qm own w c 4 (some km) ex px rx wx W) : Zje own w c W.heap.size km ex px rx wx (W.alloc (Zn4 c km ex px rx wx (.pointer none))) := by
 obtain ⟨own',el,pl,rv,rxs,rcs,wm,h1,h2,h3,h4,h5,h6,h7⟩ := h
 have hE : Ext W own' (lab own' W.heap.size 0) := (Yd0 W own').lab (Yd6 _) 0
 have hO : Zb No W (W.alloc (Zn4 c km ex px rx wx (.pointer none))) := (Yd7 No W).alloc _
 obtain ⟨k1,k2,k3⟩ := h7 km rfl
 exact ⟨lab own' W.heap.size 0,el,pl,rv,rxs,rcs,wm,h1.trans h2.size hE,h2.trans hO,(h3 (by decide)).kept hE hO (fun _ _ _ h => h),(h4 (by decide)).kept hE hO (fun _ _ _ _ h => h),(h5 (by decide)).kept hE hO (fun _ _ _ h => h),(h6 (by decide)).kept hE hO (fun _ _ _ h => h),(hE _ k3.lt).trans k1,k3.kept hO (fun h => h),Zn _ _ _,h2.size,Zh _ _⟩
theorem Zje.count {W : World} {km : Nat} (h : Zje own w c p km ex px rx wx W) : Calls Ydz 24 #[Pt ex] W fun e w' => e = .returned (.int .i64 ((Yt c.shards 1 6).toNat : Int)) ∧ W = w' := by
 obtain ⟨own',el,pl,rv,rxs,rcs,wm,h1,h2,h3,_⟩ := h
 exact Zpy h3
def Zz5 (own : Nat → Nat) (w : World) (c : Cfg) (ps : List (List Op)) (p : Nat) (W : World) : Prop := ∃ own' L,Ext w own own' ∧ Zb No w W ∧ MAt own' W L (Xh c ps) ∧ L.p = p ∧ L.cn = 0 ∧ L.wn = 0
theorem Zje.cells {W : World} {km : Nat} (h : Zje own w c p km ex px rx wx W) : Calls Ydz 23 #[.int .i64 1,.int .i64 (((Yt c.shards 1 6).toNat + 1 : Nat) : Int)] W fun e w' => ∃ cx,e = .returned (Pt cx) ∧ w'.heap[p]? = some (Zn4 c km ex px rx wx (.pointer none)) ∧ ∀ W',Sm w' W' → Zz5 own w c [] p (W'.setCell ⟨p,5,none⟩ (Pt cx)) := by
 obtain ⟨own',el,pl,rv,rxs,rcs,wm,h1,h2,h3,h4,h5,h6,h7,h8,h9,h10,h11⟩ := h
 have hn := Zjm c.shards
 refine (Zqi own' ((Yt c.shards 1 6).toNat + 1) (by omega) W).mono fun e w' q => ?_
 obtain ⟨cx,own2,rfl,q1,q2,q3⟩ := q
 have hp := q3.kept h11 (fun h => h)
 refine ⟨cx,rfl,hp,fun W' hs => ?_⟩
 have hp' : W'.heap[p]? = some (Zn4 c km ex px rx wx (.pointer none)) := by rw [hs.heap]; exact hp
 have o0 : own2 p = 0 := (q1 _ (Ze h11)).trans h9
 have ok : own2 km = 4 := (q1 _ h8.lt).trans h7
 have hO1 : Zb No W W' := q3.trans hs.only
 have hO2 : Zb (fun b => b = p) W' (W'.setCell ⟨p,5,none⟩ (Pt cx)) := Zb.setCell (S:=fun b => b = p) (Yd7 _ W') (p:=⟨p,5,none⟩) (.inl rfl) _
 have far : ∀ b,own2 b ≠ 0 → ¬ b = p := fun b hb e => hb (by rw [e]; exact o0)
 have hO3 : Zb No w (W'.setCell ⟨p,5,none⟩ (Pt cx)) := (h2.trans hO1).then hO2 (fun i hi e => by have e' : i = p := e; omega)
 have q2' : Za6 own2 W' cx 0 (List.replicate ((Yt c.shards 1 6).toNat + 1) ((0 : Int),false)) 0 := q2.kept (Yd0 _ _) hs.only (fun _ _ _ _ h => (h : False))
 refine ⟨own2,⟨p,ex,el,px,pl,rx,rv,rxs,rcs,wx,wm,0,cx,0,km,.slice none 0 0,.slice none 0 0,fun _ => 0,fun _ => .slice none 0 0,fun _ => .slice none 0 0⟩,h1.trans h2.size q1,hO3,⟨o0,Zj hp' 5 (Pt cx),?_,?_,?_,?_,?_,ok,?_,Row.nil _ _ _ _ _,Row.nil _ _ _ _ _,Yeb _,fun i t h => by simp [Xh] at h⟩,rfl,rfl,rfl⟩
 ·exact (h3.kept q1 hO1 (fun _ _ _ h => h)).kept (Yd0 _ _) hO2 (fun b _ e => far b (by unfold ShL at e; omega))
 ·exact (h4.kept q1 hO1 (fun _ _ _ _ h => h)).kept (Yd0 _ _) hO2 (fun b _ e _ => far b (by omega))
 ·exact (h5.kept q1 hO1 (fun _ _ _ h => h)).kept (Yd0 _ _) hO2 (fun b _ e => far b (by omega))
 ·exact (h6.kept q1 hO1 (fun _ _ _ h => h)).kept (Yd0 _ _) hO2 (fun b _ e => far b (by omega))
 ·exact q2'.kept (Yd0 _ _) hO2 (fun b _ e _ => far b (by omega))
 ·exact (h8.kept hO1 (fun h => h)).kept hO2 (far km (by omega))
def Zdv (own : Nat → Nat) (w : World) (c : Cfg) (ps : List (List Op)) (p x k : Nat) (v : Value) (W : World) : Prop := ∃ own' L,Ext w own own' ∧ Zb No w W ∧ MAt own' W L (Xh c (ps.take k)) ∧ L.p = p ∧ L.cn = 0 ∧ L.wn = 0 ∧ own' x = 19 ∧ w.heap.size ≤ x ∧ W.heap[x]? = some (.cells #[Pt p,v] 68 (0,0)) ∧ Row own' 19 W 70 1 v k (Zav L.tx k) ∧ ∀ b,v.ownBlock = some b → w.heap.size ≤ b
theorem Zz5.machine {W : World} (h : Zz5 own w c [] p W) (ps : List (List Op)) : Zdv own w c ps p W.heap.size 0 (.slice none 0 0) (W.alloc (.cells #[Pt p,.slice none 0 0] 68)) := by
 obtain ⟨own',L,h1,h2,h3,h4,h5,h6⟩ := h
 have hE : Ext W own' (lab own' W.heap.size 19) := (Yd0 W own').lab (Yd6 _) 19
 have hO : Zb No W (W.alloc (.cells #[Pt p,.slice none 0 0] 68)) := (Yd7 No W).alloc _
 exact ⟨lab own' W.heap.size 19,L,h1.trans h2.size hE,h2.trans hO,h3.kept hE hO (fun _ _ _ h => h),h4,h5,h6,Zn _ _ _,h2.size,Zh _ _,Row.nil _ _ _ _ _,fun b hb => by simp [Value.ownBlock] at hb⟩
def Zmr (own : Nat → Nat) (w : World) (c : Cfg) (ps : List (List Op)) (p x k : Nat) (v u : Value) (l : List Op) (W : World) : Prop := ∃ own' L,Ext w own own' ∧ Zb No w W ∧ MAt own' W L (Xh c (ps.take k)) ∧ L.p = p ∧ L.cn = 0 ∧ L.wn = 0 ∧ own' x = 19 ∧ w.heap.size ≤ x ∧ W.heap[x]? = some (.cells #[Pt p,v] 68 (0,0)) ∧ Row own' 19 W 70 1 v k (Zav L.tx k) ∧ (∀ b,v.ownBlock = some b → w.heap.size ≤ b) ∧ Row own' 9 W 44 4 u l.length (Jr l)
theorem Zdv.copy {W : World} {v2 : Value} (h : Zdv own w c ps p x k v W) (hl : Zc4 W 4 v2 l.length (Jr l)) (hn : l.length ≤ 1000) : Calls Ydz 25 #[v2] W fun e w' => ∃ u,e = .returned u ∧ Zmr own w c ps p x k v u l w' := by
 obtain ⟨own',L,h1,h2,h3,h4,h5,h6,h7,h8,h9,h10,h11⟩ := h
 have one : ∀ u ∈ Jr l,u.oneCell' = true := fun u hu => by
  obtain ⟨e,_,h⟩ := List.mem_flatMap.1 hu
  simp only [opF,List.mem_cons,List.not_mem_nil,or_false] at h
  rcases h with rfl | rfl | rfl | rfl <;> rfl
 refine (Zxg own' 9 hl one (by omega)).mono fun e w' q => ?_
 obtain ⟨u,own2,q1,q2,q3,q4,_⟩ := q
 exact ⟨u,q1,own2,L,h1.trans h2.size q2,h2.trans q4,h3.kept q2 q4 (fun _ _ _ h => h),h4,h5,h6,(q2 _ (Ze h9)).trans h7,h8,q4.kept h9 (fun h => h),h10.kept q2 q4 (fun _ _ _ h => h),h11,q3⟩
def th0 (l : List Op) : Th := ⟨l,0,0,⟨0,0,0,false⟩,0,0,0,[]⟩
def Zsh (p k : Nat) (u : Value) : Obj := .cells #[Pt p,.int .i64 (k : Int),u,.int .i64 0,.int .i64 0,.int .i64 0,.int .i64 0,.int .i64 0,.bool false,.int .i64 0,.int .i64 0,.int .i64 0,.slice none 0 0] 74
def Zjg (L : ML) (k tx : Nat) (u : Value) : ML := { L with tx := fun j => if j = k then tx else L.tx j,pv := fun j => if j = k then u else L.pv j,vv := fun j => if j = k then .slice none 0 0 else L.vv j }
theorem MAt.add (h : MAt own w L s) (he : Ext w own own') (ho : Zb No w w') {tx : Nat} (hk : s.ths.length = k) (hf : k < 64) (ox : own' tx = 70 + k) (hb : w'.heap[tx]? = some (Zsh L.p k u)) (hp : Row own' 9 w' 44 4 u l.length (Jr l)) : MAt own' w' (Zjg L k tx u) { s with ths := s.ths ++ [th0 l] } := by
 have m := h.kept he ho (fun _ _ _ h => h)
 refine ⟨m.op,m.parts,m.sh,m.pol,m.st,m.wr,m.ce,m.okm,m.keys,m.recs,m.evs,by rw [Yd8,Yd5]; omega,fun i t ht => ?_⟩
 have ht' : (s.ths ++ [th0 l])[i]? = some t := ht
 by_cases hi : i = k
 ·subst hi
  rw [← hk,List.getElem?_append_right (Yd6 _),Nat.sub_self] at ht'
  cases ht'
  have e1 : (Zjg L i tx u).tx i = tx := if_pos rfl
  have e2 : (Zjg L i tx u).pv i = u := if_pos rfl
  have e3 : (Zjg L i tx u).vv i = .slice none 0 0 := if_pos rfl
  refine ⟨by rw [e1]; exact ox,?_,by rw [e2]; exact hp,.inl ⟨e3,rfl⟩⟩
  rw [e1,hb]
  unfold Zsh thC
  rw [e2,e3]
  rfl
 ·have hlt : i < s.ths.length := by
   rcases Nat.lt_or_ge i (s.ths ++ [th0 l]).length with a | a
   ·rw [Yd8,Yd5] at a; omega
   ·rw [Yd4 a] at ht'; cases ht'
  rw [List.getElem?_append_left hlt] at ht'
  have T := m.ths i t ht'
  have e1 : (Zjg L k tx u).tx i = L.tx i := if_neg hi
  have e2 : (Zjg L k tx u).pv i = L.pv i := if_neg hi
  have e3 : (Zjg L k tx u).vv i = L.vv i := if_neg hi
  refine ⟨by rw [e1]; exact T.ox,?_,by rw [e2]; exact T.prog,by rw [e3]; exact T.vic⟩
  rw [e1,T.block]
  unfold thC
  rw [e2,e3]
  rfl
theorem Zpj (c : Cfg) (ps : List (List Op)) : (Xh c ps).ths.length = ps.length := by simp [Xh]
theorem Zu8 (c : Cfg) (h : ps[k]? = some l) : Xh c (ps.take (k + 1)) = { Xh c (ps.take k) with ths := (Xh c (ps.take k)).ths ++ [th0 l] } := by
 have : ps.take (k + 1) = ps.take k ++ [l] := by rw [List.take_add_one,h]; rfl
 rw [this]
 unfold Xh
 simp only [List.map_append,List.map_cons,List.map_nil]
 rfl
def Zw6 (own : Nat → Nat) (w : World) (c : Cfg) (ps : List (List Op)) (p x k : Nat) (v : Value) (tx : Nat) (W : World) : Prop := ∃ own' L,Ext w own own' ∧ Zb No w W ∧ MAt own' W L (Xh c (ps.take (k + 1))) ∧ L.p = p ∧ L.cn = 0 ∧ L.wn = 0 ∧ own' x = 19 ∧ w.heap.size ≤ x ∧ W.heap[x]? = some (.cells #[Pt p,v] 68 (0,0)) ∧ Row own' 19 W 70 1 v k (Zav L.tx k) ∧ (∀ b,v.ownBlock = some b → w.heap.size ≤ b) ∧ L.tx k = tx
theorem Zrq (L : ML) (k tx : Nat) (u : Value) : Zav (Zjg L k tx u).tx k = Zav L.tx k := by
 unfold Zav
 apply List.map_congr_left
 intro i hi
 have : i ≠ k := by have := List.mem_range.1 hi; omega
 show Pt (if i = k then tx else L.tx i) = _
 rw [if_neg this]
theorem Zmr.thread {W : World} (h : Zmr own w c ps p x k v u l W) (hl : ps[k]? = some l) (hk : k < 64) : Zw6 own w c ps p x k v W.heap.size (W.alloc (Zsh p k u)) := by
 obtain ⟨own',L,h1,h2,h3,h4,h5,h6,h7,h8,h9,h10,h11,h12⟩ := h
 have hE : Ext W own' (lab own' W.heap.size (70 + k)) := (Yd0 W own').lab (Yd6 _) _
 have hO : Zb No W (W.alloc (Zsh p k u)) := (Yd7 No W).alloc _
 have hkl : k < ps.length := by
  rcases Nat.lt_or_ge k ps.length with a | a
  ·exact a
  ·rw [Yd4 a] at hl; cases hl
 have M := h3.add hE hO (k:=k) (tx:=W.heap.size) (u:=u) (l:=l) (by rw [Zpj,List.length_take]; omega) hk (Zn _ _ _) (by rw [h4]; exact Zh _ _) (h12.kept hE hO (fun _ _ _ h => h))
 rw [← Zu8 c hl] at M
 exact ⟨_,Zjg L k W.heap.size u,h1.trans h2.size hE,h2.trans hO,M,h4,h5,h6,(hE _ (Ze h9)).trans h7,h8,hO.kept h9 (fun h => h),by rw [Zrq]; exact h10.kept hE hO (fun _ _ _ h => h),h11,if_pos rfl⟩
theorem Row.far {lab : Nat} {e size : Nat} (h : Row own lab w e size v n xs) (ho : Zb S w w') (hS : ∀ g,v.ownBlock = some g → ¬ S g) : Row own lab w' e size v n xs := by
 refine ⟨⟨h.1.1,?_⟩,h.2⟩
 rcases h.1.2 with hn | ⟨g,cap,cur,hv,h0,hb,hr⟩
 ·exact .inl hn
 ·exact .inr ⟨g,cap,cur,hv,h0,ho.kept hb (hS g (by rw [hv]; rfl)),hr⟩
theorem Row.type {lab : Nat} {e size : Nat} (h : Row own lab w e size v n xs) {cs : Array Value} {t : Nat} (hx : w.heap[x]? = some (.cells cs t (0,0))) (ht : t ≠ e) {g : Nat} (hg : v.ownBlock = some g) : g ≠ x := by
 rcases h.1.2 with ⟨hv,_⟩ | ⟨g',cap,cur,hv,h0,hb,hr⟩
 ·rw [hv] at hg; cases hg
 ·rw [hv] at hg
  cases hg
  intro e
  subst e
  rw [hx] at hb
  cases hb
  exact ht rfl
theorem Zw6.row {W : World} {tx : Nat} (h : Zw6 own w c ps p x k v tx W) : ∃ own' xs,(∀ W1,Zb No W W1 → Row own' 19 W1 70 1 v k xs) ∧ ∀ W1 w4 g cap,Zb No W W1 → Row (ext own' W1.heap.size 19) 19 w4 70 1 (.slice (some ⟨g,0,none⟩) (k + 1) cap) (k + 1) (xs ++ [Pt tx]) → W1.grownBy w4 v.ownBlock → (v.ownBlock = some g ∨ g = W1.heap.size) → w4.heap[x]? = some (.cells #[Pt p,v] 68 (0,0)) ∧ ∀ W5,Sm w4 W5 → Zdv own w c ps p x (k + 1) (.slice (some ⟨g,0,none⟩) (k + 1) cap) (W5.setCell ⟨x,1,none⟩ (.slice (some ⟨g,0,none⟩) (k + 1) cap)) := by
 obtain ⟨own',L,h1,h2,h3,h4,h5,h6,h7,h8,h9,h10,h11,h12⟩ := h
 refine ⟨own',Zav L.tx k,fun W1 hW => h10.kept (Yd0 _ _) hW (fun _ _ _ h => h),fun W1 w4 g cap hW hR hG hor => ?_⟩
 have R1 := h10.kept (Yd0 _ _) hW (fun _ _ _ h => h)
 have X1 := hW.kept h9 (fun h => h)
 have hxl := Ze X1
 have hgx : g ≠ x := by
  rcases hor with e | e
  ·exact R1.type X1 (by decide) e
  ·omega
 have hO4 : Zb (fun b => v.ownBlock = some b) W1 w4 := ⟨hG.os,hG.tape,hG.output,hG.size,fun b hb hn => hG.block b hb (fun e => hn e.symm)⟩
 have X4 : w4.heap[x]? = some (.cells #[Pt p,v] 68 (0,0)) := hO4.kept X1 (fun e => R1.type X1 (by decide) e rfl)
 refine ⟨X4,fun W5 hs => ?_⟩
 have X5 : W5.heap[x]? = some (.cells #[Pt p,v] 68 (0,0)) := by rw [hs.heap]; exact X4
 have hO5 : Zb (fun b => v.ownBlock = some b) W1 W5 := hO4.trans (hs.only).no
 have hO6 : Zb (fun b => b = x) W5 (W5.setCell ⟨x,1,none⟩ (.slice (some ⟨g,0,none⟩) (k + 1) cap)) := Zb.setCell (S:=fun b => b = x) (Yd7 _ W5) (p:=⟨x,1,none⟩) (.inl rfl) _
 have hE : Ext W own' (ext own' W1.heap.size 19) := fun b hb => Zz (Yea hb hW.size)
 have hO : Zb (fun b => v.ownBlock = some b ∨ b = x) W (W5.setCell ⟨x,1,none⟩ (.slice (some ⟨g,0,none⟩) (k + 1) cap)) := (hW.no).trans ((hO5.mono (fun _ _ e => .inl e)).trans (hO6.mono (fun _ _ e => .inr e)))
 have lab19 : ∀ b,(v.ownBlock = some b ∨ b = x) → own' b = 19 := fun b hb => by
  rcases hb with e | e
  ·exact h10.2 b e
  ·rw [e]; exact h7
 refine ⟨_,L,h1.trans h2.size hE,h2.then hO (fun i hi e => ?_),h3.kept hE hO (fun b _ e hb => ?_),h4,h5,h6,(hE _ (Ze h9)).trans h7,h8,?_,?_,fun b hb => ?_⟩
 ·rcases e with e | e
  ·have := h11 i e; omega
  ·have e' : i = x := e; omega
 ·have := lab19 b hb
  unfold ShL at e
  omega
 ·exact Zj X5 1 _
 ·have e1 : Zav L.tx (k + 1) = Zav L.tx k ++ [Pt tx] := by
   unfold Zav
   rw [List.range_succ,List.map_append,← h12]
   rfl
  rw [e1]
  have R5 : Row (ext own' W1.heap.size 19) 19 W5 70 1 (.slice (some ⟨g,0,none⟩) (k + 1) cap) (k + 1) (Zav L.tx k ++ [Pt tx]) := hR.sm hs
  exact R5.far hO6 (fun g' hg' e => by
   simp only [Value.ownBlock,Option.some.injEq] at hg'
   have e' : g' = x := e
   exact hgx (hg'.trans e'))
 ·simp only [Value.ownBlock,Option.some.injEq] at hb
  subst hb
  rcases hor with e | e
  ·exact h11 _ e
  ·have := h2.size
   have := hW.size
   omega
end
end Go.Proofs.YtdkhbegheognnaaGreatDoor.W

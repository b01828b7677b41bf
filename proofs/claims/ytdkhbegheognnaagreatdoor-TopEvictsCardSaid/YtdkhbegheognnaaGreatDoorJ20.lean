/- Part of the proof of TopEvicts, joined by a program of the session: Mbr Mbs Mbt Mbu Mbv Mbw Mby Mca Mcd Mci Mcj. -/
import Derived.Test.YtdkhbegheognnaaGreatDoorJ19
import Derived.Test.YtdkhbegheognnaaGreatDoorJ15
import Derived.Deep.RegionHeld3
import Derived.Deep.RegionLaw
namespace Go.Proofs.YtdkhbegheognnaaGreatDoor.W
open Go.RowKit Go.Maps
open _root_.Go.Proofs.Tryz renaming prog → Ydz, underlying215 → Yd8, results119 → Yeg, ntmps119 → Yei, func119 → Yek, ntmps42 → Yel, underlying3 → Yem, func42 → Yen, ntmps117 → Yeq, func117 → Yet, ntmps41 → Yeu, func41 → Yew
open _root_.List renaming getElem?_eq_getElem → Yd0, getD_eq_getElem?_getD → Yd4, flatMap_cons → Yd5, take_add_one → Yd6, getElem?_cons_zero → Yd7, getElem?_append_right → Yd9, getElem?_append_left → Yea, filter_append → Yeb, length_append → Yec, mem_of_getElem? → Yef, length_modify → Yeh, length_take → Yej, length_filter_le → Yeo, modify_succ_cons → Yep
open Zb renaming refl → Yd1
open _root_.Go.World renaming block_lt_of_cell? → Yd2, setCell_drew → Yev
open _root_.Nat renaming ne_of_lt → Yd3, zero_le → Yed, zero_add → Yer, zero_mul → Yes
open _root_.Option renaming some → Yee
set_option maxHeartbeats 4000000
set_option maxRecDepth 100000
variable {own : Nat → Nat}
variable {w w' : World}
variable {e size g cap b mb k c c2 kb cb : Nat}
variable {xs : List Value}
variable {v : Value}
variable {x x' : Rd}
variable {R : World → Prop}
variable {r : Rec}
variable {l : List Rec}
variable {a a2 : Option Addr}
variable {s : List (Int × Int)}
section
attribute [local go_sem] Yev Zg Zf
theorem Row.block {lab : Nat} {n : Nat} (h : Row own lab w e size (.slice (some ⟨g,0,none⟩) n cap) n xs) : own g = lab ∧ g < w.heap.size ∧ ∃ cur,w.heap[g]? = some (.cells cur e (0,0)) ∧ n * size ≤ cur.size := by
 refine ⟨h.2 g rfl,h.lt rfl,?_⟩
 rcases h.1.2 with ⟨h1,_⟩ | ⟨g',cap',cur,h1,_,h3,h4,_,h6,_⟩
 ·cases h1
 ·cases h1
  exact ⟨cur,h3,by rw [h6]; exact Nat.mul_le_mul_right _ h4⟩
theorem Row.set {lab : Nat} {n : Nat} (h : Row own lab w e size (.slice (some ⟨g,0,none⟩) n cap) n xs) {j : Nat} (u : Value) : Row own lab (w.setCell ⟨g,j,none⟩ u) e size (.slice (some ⟨g,0,none⟩) n cap) n (xs.set j u) := by
 refine ⟨⟨by rw [List.length_set]; exact h.1.1,?_⟩,h.2⟩
 rcases h.1.2 with ⟨h1,_⟩ | ⟨g',cap',cur,h1,h2,h3,h4,h5,h6,h7⟩
 ·cases h1
 ·cases h1
  refine .inr ⟨g,cap,cur.setIfInBounds j u,rfl,h2,Zj h3 j u,h4,h5,by rw [Array.size_setIfInBounds]; exact h6,?_⟩
  rw [← h7,Array.toList_setIfInBounds,List.take_set]
theorem Zet {v0 v1 v2 v3 v4 v5 v6 v7 : Value} {ty : TypeId} (h : w.heap[b]? = some (.cells #[v0,v1,v2,v3,v4,v5,v6,v7] ty (0,0))) : w.cell? ⟨b,0,none⟩ = some v0 ∧ w.cell? ⟨b,1,none⟩ = some v1 ∧ w.cell? ⟨b,2,none⟩ = some v2 ∧ w.cell? ⟨b,3,none⟩ = some v3 ∧ w.cell? ⟨b,4,none⟩ = some v4 ∧ w.cell? ⟨b,5,none⟩ = some v5 ∧ w.cell? ⟨b,6,none⟩ = some v6 ∧ w.cell? ⟨b,7,none⟩ = some v7 := ⟨Za h rfl,Za h rfl,Za h rfl,Za h rfl,Za h rfl,Za h rfl,Za h rfl,Za h rfl⟩
theorem Yak (w : World) (d k v d' k' v' : Int) (h h' : Bool) : (binOp .eql 72 (.agg #[.int .i64 d,.int .i64 k,.int .i64 v,.bool h]) (.agg #[.int .i64 d',.int .i64 k',.int .i64 v',.bool h'])).run Ydz w = .ok (.bool (d == d' && (k == k' && (v == v' && h == h')))) w := by
 have hh : (Op.equalIn 10000 72 (.agg #[.int .i64 d,.int .i64 k,.int .i64 v,.bool h]) (.agg #[.int .i64 d',.int .i64 k',.int .i64 v',.bool h'])).run Ydz w = .ok (d == d' && (k == k' && (v == v' && h == h'))) w := by
  refine Zm7 (d:=9999) Tryz.underlying72 (by kernel_rfl) ?_
  refine Zb8 (a:=.int .i64 d) (b:=.int .i64 d') (by decide) (by kernel_rfl) (by kernel_rfl) (Zgq Yem _ _ _) ?_
  refine Zb8 (a:=.int .i64 k) (b:=.int .i64 k') (by decide) (by kernel_rfl) (by kernel_rfl) (Zgq Yem _ _ _) ?_
  refine Zb8 (a:=.int .i64 v) (b:=.int .i64 v') (by decide) (by kernel_rfl) (by kernel_rfl) (Zgq Yem _ _ _) ?_
  exact Zgr (a:=.bool h) (b:=.bool h') (by decide) (by kernel_rfl) (by kernel_rfl) (Zjr Tryz.underlying4 _ _ _)
 simp only [binOp]
 simp [Op.equal,Op.maxDepth,hh]
theorem Yci (w : World) (d k v : Int) (h : Bool) : (binOp .eql 72 (.agg #[.int .i64 d,.int .i64 k,.int .i64 v,.bool h]) (.agg #[.int .i64 d,.int .i64 k,.int .i64 v,.bool h])).run Ydz w = .ok (.bool true) w := by
 rw [Yak]
 simp
def Ybz (own : Nat → Nat) (w : World) (b mb kk n g cap : Nat) (xs : List Value) (f : Int → Option Value) (r : Rec) (k : Nat) (pl : Int) (w' : World) : Prop := w'.heap[b]? = some (.cells #[.map (some mb),.slice (some ⟨g,0,none⟩) kk cap] 217 (0,0)) ∧ Zs w' mb (upd f r.t (some (Zcf (r,k)))) (if (f r.t).isSome then n else n + 1) ∧ Row own 16 w' 105 5 (.slice (some ⟨g,0,none⟩) kk cap) kk (xs.set (k * 5 + (if r.a = 2 then 3 else 4)) (.int .i64 pl)) ∧ Zb (fun b' => b' = mb ∨ own b' = 16) w w'
theorem Zk6 {kk n : Nat} {f : Int → Option Value} (r : Rec) (pl : Int) (p : Rec × Nat) (hb : w.heap[b]? = some (.cells #[.map (some mb),.slice (some ⟨g,0,none⟩) kk cap] 217 (0,0))) (hm : Hid (Zs w mb f n)) (hrow : Row own 16 w 105 5 (.slice (some ⟨g,0,none⟩) kk cap) kk xs) (ob : own b = 14) (om : own mb = 15) (hmn : n < 1000000) (hI : I64 r.t) (hp : p.2 < kk) (h3 : p.1.a ≠ 3) (ho : r.o = p.1.o) (hd : r.c.d = p.1.c.d) (hk : r.c.k = p.1.c.k) (hc : (r.a = 2 ∧ p.1.a = 1 ∧ r.e = 0) ∨ (r.a = 3 ∧ (p.1.a = 1 ∨ (r.c = p.1.c ∧ r.e = 0))))
  (L : Hid (∀ W,Zb No w W → (Instr.lookup 215 (.map (some mb)) (.int .i64 r.t) true).run Ydz W = .ok (.tuple #[Zcf p,.bool true]) W)) :
  Calls Ydz 166 #[Pt b,V3 r,.int .i64 pl] w fun e w' => e = .returned (.bool true) ∧ Ybz own w b mb kk n g cap xs f r p.2 pl w' := by
 obtain ⟨og,hgl,cur,hgb,hcs⟩ := hrow.block
 obtain ⟨t,o,a,⟨d,k,v1,hh⟩,er⟩ := r
 obtain ⟨⟨pt,po,pa,⟨pd,pk,pv,ph⟩,pe⟩,pn⟩ := p
 simp only at *
 subst ho
 subst hd
 subst hk
 unfold Zcf at L
 unfold V3
 simp only at L ⊢
 have c0 : w.cell? ⟨b,0,none⟩ = some (.map (some mb)) := Za hb rfl
 have hbl := Ze hb
 have HB := Ydy hb
 clear hb
 go_enter Tryz.func166,Tryz.ntmps166
 go_wp2
 have hbx : b ≠ w.heap.size := Yd3 hbl
 have hbx2 := Ne.symm hbx
 have hb1 : b ≠ w.heap.size + 1 := by omega
 have hb2 := Ne.symm hb1
 have L1 := L.out (w.alloc (.cells #[.int .i64 t,.int .i64 o,.int .i64 a,.int .i64 d,.int .i64 k,.int .i64 v1,.bool hh,.int .i64 er] 98)).drew (((Yd1 No w).alloc _).drew)
 have L2 := fun o2 => L.out ((w.alloc (.cells #[.int .i64 t,.int .i64 o,.int .i64 a,.int .i64 d,.int .i64 k,.int .i64 v1,.bool hh,.int .i64 er] 98)).alloc o2).drew ((((Yd1 No w).alloc _).alloc _).drew)
 go_region_held3 (fun w' => w'.cell? ⟨b,0,none⟩ = some (.map (some mb)) ∧ w'.cell? ⟨w.heap.size,0,none⟩ = some (.int .i64 t)) (go_keep) (fail)
 all_goals
  have hO : Hid (Zb No w ((w.alloc (.cells #[.int .i64 t,.int .i64 o,.int .i64 a,.int .i64 d,.int .i64 k,.int .i64 v1,.bool hh,.int .i64 er] 98)).alloc (.cells #[.int .i64 pt,.int .i64 o,.int .i64 pa,.int .i64 d,.int .i64 k,.int .i64 pv,.bool ph,.int .i64 pe,.int .i64 (pn : Int)] 299)).drew) := Ydy ((((Yd1 No w).alloc _).alloc _).drew)
  have hq0 : Hid ((((w.alloc (.cells #[.int .i64 t,.int .i64 o,.int .i64 a,.int .i64 d,.int .i64 k,.int .i64 v1,.bool hh,.int .i64 er] 98)).alloc (.cells #[.int .i64 pt,.int .i64 o,.int .i64 pa,.int .i64 d,.int .i64 k,.int .i64 pv,.bool ph,.int .i64 pe,.int .i64 (pn : Int)] 299)).drew).heap[w.heap.size]? = some (.cells #[.int .i64 t,.int .i64 o,.int .i64 a,.int .i64 d,.int .i64 k,.int .i64 v1,.bool hh,.int .i64 er] 98)) := Ydy (Zbv w _ _)
  have hq1 : Hid ((((w.alloc (.cells #[.int .i64 t,.int .i64 o,.int .i64 a,.int .i64 d,.int .i64 k,.int .i64 v1,.bool hh,.int .i64 er] 98)).alloc (.cells #[.int .i64 pt,.int .i64 o,.int .i64 pa,.int .i64 d,.int .i64 k,.int .i64 pv,.bool ph,.int .i64 pe,.int .i64 (pn : Int)] 299)).drew).heap[w.heap.size + 1]? = some (.cells #[.int .i64 pt,.int .i64 o,.int .i64 pa,.int .i64 d,.int .i64 k,.int .i64 pv,.bool ph,.int .i64 pe,.int .i64 (pn : Int)] 299)) := Ydy (Kj w _ _)
  clear L L1 L2 hb1 hb2 c0
  revert hO hq0 hq1
  generalize ((w.alloc (.cells #[.int .i64 t,.int .i64 o,.int .i64 a,.int .i64 d,.int .i64 k,.int .i64 v1,.bool hh,.int .i64 er] 98)).alloc (.cells #[.int .i64 pt,.int .i64 o,.int .i64 pa,.int .i64 d,.int .i64 k,.int .i64 pv,.bool ph,.int .i64 pe,.int .i64 (pn : Int)] 299)).drew = wb
  intro hO hq0 hq1
  have hbb := hO.out.kept HB.out (fun h => h)
  have c0 := Za (j:=0) hbb rfl
  have c1 := Za (j:=1) hbb rfl
  have u0 := Za (j:=0) hq0.out rfl
  have u1 := Za (j:=1) hq0.out rfl
  have u2 := Za (j:=2) hq0.out rfl
  have u3 := Za (j:=3) hq0.out rfl
  have u4 := Za (j:=4) hq0.out rfl
  have u5 := Za (j:=5) hq0.out rfl
  have u6 := Za (j:=6) hq0.out rfl
  have u7 := Za (j:=7) hq0.out rfl
  have x0 := Za (j:=0) hq1.out rfl
  have x1 := Za (j:=1) hq1.out rfl
  have x2 := Za (j:=2) hq1.out rfl
  have x3 := Za (j:=3) hq1.out rfl
  have x4 := Za (j:=4) hq1.out rfl
  have x5 := Za (j:=5) hq1.out rfl
  have x6 := Za (j:=6) hq1.out rfl
  have x7 := Za (j:=7) hq1.out rfl
  have x8 := Za (j:=8) hq1.out rfl
  clear hbb
  have d1 : (pa == 3) = false := beq_eq_false_iff_ne.2 h3
  clear h3
  have m0 : w.heap.size < wb.heap.size := Ze hq0.out
  have m1 : w.heap.size + 1 < wb.heap.size := Ze hq1.out
  have m2 : b < wb.heap.size := Nat.lt_of_lt_of_le hbl hO.out.size
  have m3 : w.heap.size ≠ wb.heap.size := Yd3 m0
  have m4 : w.heap.size + 1 ≠ wb.heap.size := Yd3 m1
  have m5 : b ≠ wb.heap.size := Yd3 m2
  have m6 := Ne.symm m3
  have m7 := Ne.symm m4
  have m8 := Ne.symm m5
  go_wp2
  have hO2 := Ydy (hO.out.alloc (.cells #[.int .i64 pt,.int .i64 o,.int .i64 pa,.int .i64 d,.int .i64 k,.int .i64 pv,.bool ph,.int .i64 pe] 98))
  have hr0 := Ydy (Zm (o':=(.cells #[.int .i64 pt,.int .i64 o,.int .i64 pa,.int .i64 d,.int .i64 k,.int .i64 pv,.bool ph,.int .i64 pe] 98)) hq0.out)
  have hr1 := Ydy (Zm (o':=(.cells #[.int .i64 pt,.int .i64 o,.int .i64 pa,.int .i64 d,.int .i64 k,.int .i64 pv,.bool ph,.int .i64 pe] 98)) hq1.out)
  have hr2 := Ydy (Zh wb (.cells #[.int .i64 pt,.int .i64 o,.int .i64 pa,.int .i64 d,.int .i64 k,.int .i64 pv,.bool ph,.int .i64 pe] 98))
  have hrb := Ydy (Zm (o':=(.cells #[.int .i64 pt,.int .i64 o,.int .i64 pa,.int .i64 d,.int .i64 k,.int .i64 pv,.bool ph,.int .i64 pe] 98)) (hO.out.kept HB.out (fun h => h)))
  have m9 : w.heap.size < wb.heap.size := m0
  clear c0 c1 u0 u1 u2 u3 u4 u5 u6 u7 x0 x1 x2 x3 x4 x5 x6 x7 x8 m0 m1 m2 m4 m5 m7 m8 hq0 hq1 d1
  revert hO2 hr0 hr1 hr2 hrb m3 m6 m9
  generalize wb.alloc (.cells #[.int .i64 pt,.int .i64 o,.int .i64 pa,.int .i64 d,.int .i64 k,.int .i64 pv,.bool ph,.int .i64 pe] 98) = w2
  generalize wb.heap.size = n2
  intro m3 m6 hO2 hr0 hr1 hr2 hrb m9
  have c0 := Za (j:=0) hrb.out rfl
  have c1 := Za (j:=1) hrb.out rfl
  have x8 := Za (j:=8) hr1.out rfl
  have u0 := Za (j:=0) hr0.out rfl
  have u1 := Za (j:=1) hr0.out rfl
  have u2 := Za (j:=2) hr0.out rfl
  have u3 := Za (j:=3) hr0.out rfl
  have u4 := Za (j:=4) hr0.out rfl
  have u5 := Za (j:=5) hr0.out rfl
  have u6 := Za (j:=6) hr0.out rfl
  have u7 := Za (j:=7) hr0.out rfl
  have hp1 : (pn : Int) < (kk : Int) := by omega
  have hp0 : (0 : Int) ≤ (pn : Int) := by omega
  go_quiet (fail)
  go_wp2
  refine Z4 10 (by kernel_rfl) (by kernel_rfl) ?_
  intro W hcW hfW hsW HW
  have hsm : Sm w2 W := by rw [← HW.out]; exact ⟨rfl,rfl,rfl,rfl⟩
  have HSM := Ydy hsm
  have HM := Ydy (hsm.map (hm.out.kept hO2.out (fun h => h)))
  have c0' := (hsm.cell _).trans c0
  have x8' := (hsm.cell _).trans x8
  have u0' := (hsm.cell _).trans u0
  have u1' := (hsm.cell _).trans u1
  have u2' := (hsm.cell _).trans u2
  have u3' := (hsm.cell _).trans u3
  have u4' := (hsm.cell _).trans u4
  have u5' := (hsm.cell _).trans u5
  have u6' := (hsm.cell _).trans u6
  have u7' := (hsm.cell _).trans u7
  clear hcW hfW hsW HW hsm c0 c1 x8 u0 u1 u2 u3 u4 u5 u6 u7
  simp only [List.take_succ_cons,List.take_zero,List.drop_succ_cons,List.drop_zero]
  iterate 10 still_step
  refine wpStill_nil ?_
  have hmbl : mb < w.heap.size := hm.out.lt
  have hgm : g ≠ mb := fun e => by rw [e] at og; omega
  have hgn0 : g ≠ w.heap.size := Yd3 hgl
  have hgn2 : g ≠ n2 := by omega
  have hgn0' := Ne.symm hgn0
  have hgn2' := Ne.symm hgn2
  have HG2 := Ydy (HSM.out.block (hO2.out.kept hgb (fun h => h)))
  obtain ⟨z3,hz3⟩ : ∃ z,cur[pn * 5 + 3]? = some z := ⟨_,Array.getElem?_eq_getElem (by omega)⟩
  obtain ⟨z4,hz4⟩ : ∃ z,cur[pn * 5 + 4]? = some z := ⟨_,Array.getElem?_eq_getElem (by omega)⟩
  have h14 : b ≠ mb := fun e => by rw [e] at ob; omega
  have hbg : b ≠ g := fun e => by rw [e] at ob; omega
  have HFIN : Hid (∀ w5,Zs w5 mb (upd f t (some (.agg #[.int .i64 t,.int .i64 o,.int .i64 a,.int .i64 d,.int .i64 k,.int .i64 v1,.bool hh,.int .i64 er,.int .i64 (pn : Int)]))) (if (f t).isSome then n else n + 1) → W.mapTurned w5 mb → Ybz own w b mb kk n g cap xs f ⟨t,o,a,⟨d,k,v1,hh⟩,er⟩ pn pl (w5.setCell ⟨g,pn * 5 + (if a = 2 then 3 else 4),none⟩ (.int .i64 pl))) := Ydy (fun w5 h1 h2 => by
   have hOw : Zb No w W := Sm.then_only hO2.out HSM.out
   have ho5 : Zb (fun k => k = mb) w w5 := hOw.no.trans ((Yd1 (fun k => k = mb) W).turned h2 (.inl rfl))
   have ho6 : Zb (fun k => k = g) w5 (w5.setCell ⟨g,pn * 5 + (if a = 2 then 3 else 4),none⟩ (.int .i64 pl)) := (Yd1 (fun k => k = g) w5).setCell (.inl rfl) _
   have hr5 := hrow.kept (Ext.refl w own) ho5 (fun k _ hk e => by have e' : k = mb := e; rw [e'] at hk; omega)
   refine ⟨ho6.kept (ho5.kept HB.out (fun e => h14 e)) (fun e => hbg e),h1.kept ho6 (fun e => hgm e.symm),hr5.set _,(ho5.mono (fun k _ e => .inl e)).then ho6 (fun k _ e => .inr (by have e' : k = g := e; rw [e']; exact og))⟩)
  have HT2 := Ydy (fun (w5 : World) (ht5 : W.mapTurned w5 mb) => ((Yq ht5 (by omega : w.heap.size ≠ mb)).trans (HSM.out.block hr0.out) : w5.heap[w.heap.size]? = _))
  have HT3 := Ydy (fun (w5 : World) (ht5 : W.mapTurned w5 mb) => ((Yq ht5 (by omega : n2 ≠ mb)).trans (HSM.out.block hr2.out) : w5.heap[n2]? = _))
  have HT4 := Ydy (fun (w5 : World) (ht5 : W.mapTurned w5 mb) => ((Yq ht5 hgm).trans HG2.out : w5.heap[g]? = _))
  clear hrow hm hr0 hr1 hr2 hrb hO2 hO HB og ob om hgb hcs hmbl hgm h14 hbg HSM HG2 hgl
  rcases hc with ⟨ha,hpa,he⟩ | ⟨ha,hpa | ⟨hcc,he⟩⟩
  ·have a2 : (a == 2) = true := by simpa using ha
   have p1 : (pa == 1) = true := by simpa using hpa
   have e0 : (er == 0) = true := by simpa using he
   rw [if_pos ha] at HFIN
   clear ha hpa he
   go_upto_region 7 with (refine Y0 (by rfl) (t:=215) (by rfl) (e:=299) Yd8 (b:=mb) (by rfl) HM.out hmn (k:=t) (val:=.agg #[.int .i64 t,.int .i64 o,.int .i64 a,.int .i64 d,.int .i64 k,.int .i64 v1,.bool hh,.int .i64 er,.int .i64 (pn : Int)]) (by rfl) (by rfl) hI ?_; intro w5 hm5 ht5; have HF5 := Ydy (HFIN.out w5 hm5 ht5); obtain ⟨_,_,s2,s3,s4,s5,s6,s7⟩ := Zet (HT2.out w5 ht5); obtain ⟨_,_,r2,r3,r4,r5,r6,r7⟩ := Zet (HT3.out w5 ht5); have hg5 := HT4.out w5 ht5; have t3 := Za hg5 hz3; have t4 := Za hg5 hz4; have fg := Zc hg5; have fg3 := fg (pn * 5 + 3); have fg4 := fg (pn * 5 + 4); clear hm5 ht5 hg5 fg)
   go_wp2
   refine bodyPost_ret (v:=.bool true) (by simp [results,Tryz.results166,go_sem]) rfl ?_
   exact ⟨rfl,HF5.out⟩
  ·have a2 : (a == 2) = false := by simp [ha]
   have a3 : (a == 3) = true := by simpa using ha
   have p1 : (pa == 1) = true := by simpa using hpa
   rw [if_neg (show ¬ (a = 2) by omega)] at HFIN
   clear ha hpa
   go_upto_region 7 with (refine Y0 (by rfl) (t:=215) (by rfl) (e:=299) Yd8 (b:=mb) (by rfl) HM.out hmn (k:=t) (val:=.agg #[.int .i64 t,.int .i64 o,.int .i64 a,.int .i64 d,.int .i64 k,.int .i64 v1,.bool hh,.int .i64 er,.int .i64 (pn : Int)]) (by rfl) (by rfl) hI ?_; intro w5 hm5 ht5; have HF5 := Ydy (HFIN.out w5 hm5 ht5); obtain ⟨_,_,s2,s3,s4,s5,s6,s7⟩ := Zet (HT2.out w5 ht5); obtain ⟨_,_,r2,r3,r4,r5,r6,r7⟩ := Zet (HT3.out w5 ht5); have hg5 := HT4.out w5 ht5; have t3 := Za hg5 hz3; have t4 := Za hg5 hz4; have fg := Zc hg5; have fg3 := fg (pn * 5 + 3); have fg4 := fg (pn * 5 + 4); clear hm5 ht5 hg5 fg)
   go_wp2
   refine bodyPost_ret (v:=.bool true) (by simp [results,Tryz.results166,go_sem]) rfl ?_
   exact ⟨rfl,HF5.out⟩
  ·have a2 : (a == 2) = false := by simp [ha]
   have a3 : (a == 3) = true := by simpa using ha
   have e0 : (er == 0) = true := by simpa using he
   rw [if_neg (show ¬ (a = 2) by omega)] at HFIN
   simp only [Com.mk.injEq,true_and] at hcc
   obtain ⟨rfl,rfl⟩ := hcc
   have EQ := fun w => Yci w d k v1 hh
   clear ha he
   cases hp1 : (pa == 1)
   all_goals
    skip
    go_upto_region 7 with (refine Y0 (by rfl) (t:=215) (by rfl) (e:=299) Yd8 (b:=mb) (by rfl) HM.out hmn (k:=t) (val:=.agg #[.int .i64 t,.int .i64 o,.int .i64 a,.int .i64 d,.int .i64 k,.int .i64 v1,.bool hh,.int .i64 er,.int .i64 (pn : Int)]) (by rfl) (by rfl) hI ?_; intro w5 hm5 ht5; have HF5 := Ydy (HFIN.out w5 hm5 ht5); obtain ⟨_,_,s2,s3,s4,s5,s6,s7⟩ := Zet (HT2.out w5 ht5); obtain ⟨_,_,r2,r3,r4,r5,r6,r7⟩ := Zet (HT3.out w5 ht5); have hg5 := HT4.out w5 ht5; have t3 := Za hg5 hz3; have t4 := Za hg5 hz4; have fg := Zc hg5; have fg3 := fg (pn * 5 + 3); have fg4 := fg (pn * 5 + 4); clear hm5 ht5 hg5 fg)
    go_wp2
    go_ret
    exact ⟨rfl,HF5.out⟩
structure Zki (own : Nat → Nat) (w : World) (b mb : Nat) (v : Value) (x : Rd) : Prop where
 ob : own b = 14
 om : own mb = 15
 block : w.heap[b]? = some (.cells #[.map (some mb),v] 217 (0,0))
 map : Zs w mb (rf x.at_) x.at_.length
 row : Row own 16 w 105 5 v x.calls.length (Yc x.calls)
 keys : Yo x.at_
 ks : ∀ t p,Zk x.at_ t = some p → p.2 < x.calls.length
def RdL (own : Nat → Nat) : Nat → Prop := fun b => own b = 14 ∨ own b = 15 ∨ own b = 16
theorem Zki.no (h : Zki own w b mb v x) (ho : Zb No w w') : Zki own w' b mb v x :=
 ⟨h.ob,h.om,ho.kept h.block (fun h => h),h.map.kept ho (fun h => h),h.row.kept (Ext.refl _ _) ho (fun _ _ _ h => h),h.keys,h.ks⟩
def RdQ (own : Nat → Nat) (w : World) (b mb : Nat) (x' : Rd) (w' : World) : Prop := ∃ own' v',Ext w own own' ∧ Zki own' w' b mb v' x' ∧ Zb (RdL own) w w'
theorem Zv2 (l : List (Int × (Rec × Nat))) (k : Int) (p : Rec × Nat) (i : Int) : rf (Yn l k p) i = upd (rf l) k (some (Zcf p)) i := by
 unfold rf upd
 rw [Yv]
 split <;> rfl
theorem Zps (l : List (Int × (Rec × Nat))) (k : Int) : (rf l k).isSome = (Zk l k).isSome := by unfold rf; cases Zk l k <;> rfl
theorem Zkm (l : List Qq) (k : Nat) (pl : Int) (hk : k < l.length) : Yc (l.modify k (fun c => { c with a := pl })) = (Yc l).set (k * 5 + 3) (.int .i64 pl) ∧ Yc (l.modify k (fun c => { c with r := pl })) = (Yc l).set (k * 5 + 4) (.int .i64 pl) := by
 induction l generalizing k with
 | nil => simp at hk
 | cons c l ih =>
  cases k with
  | zero => simp [Yc,Zbt,List.modify_cons]
  | succ k =>
   obtain ⟨h1,h2⟩ := ih k (by simpa using hk)
   constructor
   ·rw [Yep,show (k + 1) * 5 + 3 = (k * 5 + 3) + 5 from by omega]
    show Zbt c ++ Yc _ = (Zbt c ++ Yc l).set _ _
    rw [h1]
    simp [Zbt]
   ·rw [Yep,show (k + 1) * 5 + 4 = (k * 5 + 4) + 5 from by omega]
    show Zbt c ++ Yc _ = (Zbt c ++ Yc l).set _ _
    rw [h2]
    simp [Zbt]
theorem Znp (h : Zki own w b mb v x) (r : Rec) (pl : Int) (hr : Zbd x r pl = some x') (hI : I64 r.t) (hIo : I64 r.o) (hc : x.calls.length ≤ 1000000) (hn : x.at_.length < 1000000) : Calls Ydz 165 #[Pt b,V3 r,.int .i64 pl] w fun e w' => e = .returned (.bool true) ∧ RdQ own w b mb x' w' := by
 have key : x' = ⟨Yn x.at_ r.t (r,x.calls.length),x.calls ++ [⟨r.t,r.o,pl,-1,-1⟩]⟩ ∧ r.e = 0 ∧ ((Zk x.at_ r.t = none ∧ r.o = 0) ∨ ∃ p,Zk x.at_ r.t = some p ∧ p.1.a = 3 ∧ r.o = p.1.o + 1) := by
  unfold Zbd at hr
  cases hg : Zk x.at_ r.t with
  | none =>
   rw [hg] at hr
   simp only at hr
   split at hr
   ·rename_i hb
    rw [Bool.and_eq_true] at hb
    cases hr
    exact ⟨rfl,by simpa using hb.2,.inl ⟨rfl,by simpa using hb.1⟩⟩
   ·cases hr
  | some p =>
   rw [hg] at hr
   simp only at hr
   split at hr
   ·rename_i hb
    rw [Bool.and_eq_true] at hb
    cases hr
    have h1 : p.1.a = 3 ∧ r.o = p.1.o + 1 := by simpa using hb.1
    exact ⟨rfl,by simpa using hb.2,.inr ⟨p,rfl,h1.1,h1.2⟩⟩
   ·cases hr
 obtain ⟨hx,he,hor⟩ := key
 subst hx
 obtain ⟨p,was,hL,hcase⟩ : ∃ p was,(∀ W,Zb No w W → (Instr.lookup 215 (.map (some mb)) (.int .i64 r.t) true).run Ydz W = .ok (.tuple #[Zcf p,.bool was]) W) ∧ ((was = false ∧ r.o = 0) ∨ (was = true ∧ p.1.a = 3 ∧ r.o = p.1.o + 1 ∧ I64 r.o)) := by
  have LK := fun W (hW : Zb No w W) => (h.map.kept hW (fun h => h)).look (t:=215) (e:=299) Yd8 (Zp4 W) hI
  rcases hor with ⟨hg,ho⟩ | ⟨p,hg,h1,h2⟩
  ·refine ⟨(Ycx,0),false,fun W hW => ?_,.inl ⟨rfl,ho⟩⟩
   have := LK W hW
   unfold rf at this
   rw [hg] at this
   exact this
  ·refine ⟨p,true,fun W hW => ?_,.inr ⟨rfl,h1,h2,hIo⟩⟩
   have := LK W hW
   unfold rf at this
   rw [hg] at this
   exact this
 have hv : ∃ a c,v = .slice a x.calls.length c := by
  rcases h.row.form with ⟨h1,h2,_⟩ | ⟨g,cap,h1,_⟩
  ·exact ⟨none,0,by rw [h1,h2]⟩
  ·exact ⟨_,_,h1⟩
 refine (Zld r pl p was h.block hv (Ydy h.map) h.row h.ob h.om hc hn hI he hcase (Ydy hL)).mono fun e w' q => ⟨q.1,?_⟩
 obtain ⟨own',v',q1,q2,q3,q4,q5⟩ := q.2
 refine ⟨own',v',q1,⟨(q1 _ (Ze h.block)).trans h.ob,(q1 _ h.map.lt).trans h.om,q2,?_,?_,h.keys.put _ _,fun t p ht => ?_⟩,q5.mono (fun k _ e => by
  rcases e with rfl | rfl | e
  ·exact .inl h.ob
  ·exact .inr (.inl h.om)
  ·exact .inr (.inr e))⟩
 ·rw [Xk h.keys]
  rw [Zps] at q3
  exact q3.eq (fun i _ => Zv2 _ _ _ i)
 ·have e1 : Yc (x.calls ++ [⟨r.t,r.o,pl,-1,-1⟩]) = Yc x.calls ++ Zbt ⟨r.t,r.o,pl,-1,-1⟩ := by simp [Yc]
  rw [e1,Yec]
  exact q4
 ·rw [Yv] at ht
  rw [Yec]
  split at ht
  ·cases ht; simp
  ·have := h.ks t p ht; simp; omega
theorem Znh (h : Zki own w b mb v x) (r : Rec) (pl : Int) (hr : Zab x r pl = some x') (hI : I64 r.t) (hn : x.at_.length < 1000000) : Calls Ydz 166 #[Pt b,V3 r,.int .i64 pl] w fun e w' => e = .returned (.bool true) ∧ RdQ own w b mb x' w' := by
 unfold Zab at hr
 cases hg : Zk x.at_ r.t with
 | none => rw [hg] at hr; cases hr
 | some p =>
  obtain ⟨last,k⟩ := p
  rw [hg] at hr
  simp only at hr
  have hk : k < x.calls.length := h.ks _ _ hg
  have hL : ∀ W,Zb No w W → (Instr.lookup 215 (.map (some mb)) (.int .i64 r.t) true).run Ydz W = .ok (.tuple #[Zcf (last,k),.bool true]) W := fun W hW => by
   have := (h.map.kept hW (fun h => h)).look (t:=215) (e:=299) Yd8 (Zp4 W) hI
   unfold rf at this
   rw [hg] at this
   exact this
  obtain ⟨g,cap,hv⟩ : ∃ g cap,v = .slice (some ⟨g,0,none⟩) x.calls.length cap := by
   rcases h.row.form with ⟨_,h2,_⟩ | ⟨g,cap,h1,_⟩
   ·omega
   ·exact ⟨g,cap,h1⟩
  subst hv
  split at hr
  ·cases hr
  ·rename_i hbad
   have h3 : last.a ≠ 3 := fun e => hbad (.inl e)
   have ho : r.o = last.o := Decidable.byContradiction fun e => hbad (.inr (.inl e))
   have hd : r.c.d = last.c.d := Decidable.byContradiction fun e => hbad (.inr (.inr (.inl e)))
   have hkk : r.c.k = last.c.k := Decidable.byContradiction fun e => hbad (.inr (.inr (.inr e)))
   obtain ⟨hx,hc⟩ : x' = ⟨Yn x.at_ r.t (r,k),x.calls.modify k (if r.a = 2 then (fun c => { c with a := pl }) else (fun c => { c with r := pl }))⟩ ∧ ((r.a = 2 ∧ last.a = 1 ∧ r.e = 0) ∨ (r.a = 3 ∧ (last.a = 1 ∨ (r.c = last.c ∧ r.e = 0)))) := by
    split at hr
    ·rename_i h2
     split at hr
     ·rename_i h1
      cases hr
      exact ⟨by rw [if_pos h2],.inl ⟨h2,h1⟩⟩
     ·cases hr
    ·rename_i h2
     split at hr
     ·rename_i h3
      split at hr
      ·rename_i h1
       cases hr
       exact ⟨by rw [if_neg h2],.inr ⟨h3,h1⟩⟩
      ·cases hr
     ·cases hr
   subst hx
   refine (Zk6 r pl (last,k) h.block (Ydy h.map) h.row h.ob h.om hn hI hk h3 ho hd hkk hc (Ydy hL)).mono fun e w' q => ⟨q.1,?_⟩
   obtain ⟨q2,q3,q4,q5⟩ := q.2
   have hlen : ∀ f : Qq → Qq,(x.calls.modify k f).length = x.calls.length := fun f => Yeh ..
   refine ⟨own,_,Ext.refl _ _,⟨h.ob,h.om,q2,?_,?_,h.keys.put _ _,fun t p ht => ?_⟩,q5.mono (fun k _ e => by
    rcases e with rfl | e
    ·exact .inr (.inl h.om)
    ·exact .inr (.inr e))⟩
   ·rw [Xk h.keys]
    rw [Zps] at q3
    exact q3.eq (fun i _ => Zv2 _ _ _ i)
   ·simp only [hlen]
    obtain ⟨c1,c2⟩ := Zkm x.calls k pl hk
    by_cases h2 : r.a = 2
    ·rw [if_pos h2,c1]
     rw [if_pos h2] at q4
     exact q4
    ·rw [if_neg h2,c2]
     rw [if_neg h2] at q4
     exact q4
   ·rw [Yv] at ht
    rw [hlen]
    split at ht
    ·cases ht; exact hk
    ·exact h.ks t p ht
theorem Zyu (r : Rec) (pl : Int) (ht0 : 0 ≤ r.t) (ht1 : r.t < 64) (ho : r.o < 0) (HC : Hid (Calls Ydz 164 #[V3 r] (w.alloc (Kk r)) fun e w' => e = .returned (.bool true) ∧ R w')) :
  Calls Ydz 117 #[Pt b,V3 r,.int .i64 pl] w fun e w' => e = .returned (.bool true) ∧ R w' := by
 obtain ⟨t,o,a,⟨d,k,v1,hh⟩,er⟩ := r
 simp only at ht0 ht1 ho
 have d1 : decide (t < 0) = false := decide_eq_false (by omega)
 have d2 : decide (64 ≤ t) = false := decide_eq_false (by omega)
 have d3 : decide (o < 0) = true := decide_eq_true ho
 clear ht0 ht1 ho
 unfold V3 Kk at *
 simp only at HC ⊢
 go_enter Yet,Yeq
 go_wp2_with fail
 refine (HC.out).mono ?_
 rintro e w1 ⟨rfl,h⟩
 go_wp2
 go_ret
 exact ⟨rfl,h⟩
theorem Zvy (r : Rec) (pl : Int) (ht0 : 0 ≤ r.t) (ht1 : r.t < 64) (ho : 0 ≤ r.o) (ha : r.a = 1) (HC : Hid (Calls Ydz 165 #[Pt b,V3 r,.int .i64 pl] (w.alloc (Kk r)) fun e w' => e = .returned (.bool true) ∧ R w')) :
  Calls Ydz 117 #[Pt b,V3 r,.int .i64 pl] w fun e w' => e = .returned (.bool true) ∧ R w' := by
 obtain ⟨t,o,a,⟨d,k,v1,hh⟩,er⟩ := r
 simp only at ht0 ht1 ho ha
 have d1 : decide (t < 0) = false := decide_eq_false (by omega)
 have d2 : decide (64 ≤ t) = false := decide_eq_false (by omega)
 have d3 : decide (o < 0) = false := decide_eq_false (by omega)
 subst ha
 clear ht0 ht1 ho
 unfold V3 Kk at *
 simp only at HC ⊢
 go_enter Yet,Yeq
 go_wp2_with fail
 refine (HC.out).mono ?_
 rintro e w1 ⟨rfl,h⟩
 go_wp2
 go_ret
 exact ⟨rfl,h⟩
theorem Zvx (r : Rec) (pl : Int) (ht0 : 0 ≤ r.t) (ht1 : r.t < 64) (ho : 0 ≤ r.o) (ha : r.a ≠ 1) (HC : Hid (Calls Ydz 166 #[Pt b,V3 r,.int .i64 pl] (w.alloc (Kk r)) fun e w' => e = .returned (.bool true) ∧ R w')) :
  Calls Ydz 117 #[Pt b,V3 r,.int .i64 pl] w fun e w' => e = .returned (.bool true) ∧ R w' := by
 obtain ⟨t,o,a,⟨d,k,v1,hh⟩,er⟩ := r
 simp only at ht0 ht1 ho ha
 have d1 : decide (t < 0) = false := decide_eq_false (by omega)
 have d2 : decide (64 ≤ t) = false := decide_eq_false (by omega)
 have d3 : decide (o < 0) = false := decide_eq_false (by omega)
 have d4 : (a == 1) = false := beq_eq_false_iff_ne.2 ha
 clear ht0 ht1 ho ha
 unfold V3 Kk at *
 simp only at HC ⊢
 go_enter Yet,Yeq
 go_wp2_with fail
 refine (HC.out).mono ?_
 rintro e w1 ⟨rfl,h⟩
 go_wp2
 go_ret
 exact ⟨rfl,h⟩
theorem Zn8 (h : Zki own w b mb v x) (r : Rec) (pl : Int) (hr : Zck x r pl = some x') (hIo : I64 r.o) (hc : x.calls.length ≤ 1000000) (hn : x.at_.length < 1000000) : Calls Ydz 117 #[Pt b,V3 r,.int .i64 pl] w fun e w' => e = .returned (.bool true) ∧ RdQ own w b mb x' w' := by
 have h2 := h.no ((Yd1 No w).alloc (Kk r))
 have PRE : ∀ w',RdQ own (w.alloc (Kk r)) b mb x' w' → RdQ own w b mb x' w' := fun w' q => by
  obtain ⟨own',v',q1,q2,q3⟩ := q
  exact ⟨own',v',fun k hk => q1 k (by simp; omega),q2,(((Yd1 No w).alloc (Kk r)).no).trans q3⟩
 unfold Zck at hr
 split at hr
 ·cases hr
 ·rename_i ht
  have ht0 : 0 ≤ r.t := by omega
  have ht1 : r.t < 64 := by omega
  have hI : I64 r.t := ⟨by omega,by omega⟩
  split at hr
  ·rename_i ho
   split at hr
   ·rename_i he
    cases hr
    refine Zyu r pl ht0 ht1 ho (Ydy ((Znc r he _).mono fun e w' q => ⟨q.1,PRE _ ⟨own,v,Ext.refl _ _,h2.no q.2,q.2.no⟩⟩))
   ·cases hr
  ·rename_i ho
   split at hr
   ·rename_i ha
    exact Zvy r pl ht0 ht1 (by omega) ha (Ydy ((Znp h2 r pl hr hI hIo hc hn).mono fun e w' q => ⟨q.1,PRE _ q.2⟩))
   ·rename_i ha
    exact Zvx r pl ht0 ht1 (by omega) ha (Ydy ((Znh h2 r pl hr hI hn).mono fun e w' q => ⟨q.1,PRE _ q.2⟩))
theorem Zvz {pl : Int} (hk : Yo x.at_) (hr : Zck x r pl = some x') : x'.at_.length ≤ x.at_.length + 1 ∧ x'.calls.length ≤ x.calls.length + 1 := by
 have ha : ∀ p,(Yn x.at_ r.t p).length ≤ x.at_.length + 1 := fun p => by rw [Xk hk]; split <;> omega
 unfold Zck at hr
 split at hr
 ·cases hr
 ·split at hr
  ·split at hr
   ·cases hr; omega
   ·cases hr
  ·split at hr
   ·unfold Zbd at hr
    cases hg : Zk x.at_ r.t with
    | none =>
     rw [hg] at hr
     simp only at hr
     split at hr
     ·cases hr
      exact ⟨ha _,by simp⟩
     ·cases hr
    | some p =>
     rw [hg] at hr
     simp only at hr
     split at hr
     ·cases hr
      exact ⟨ha _,by simp⟩
     ·cases hr
   ·unfold Zab at hr
    split at hr
    ·cases hr
    ·split at hr
     ·cases hr
     ·split at hr
      ·split at hr
       ·cases hr
        exact ⟨ha _,by simp only [Yeh]; omega⟩
       ·cases hr
      ·split at hr
       ·split at hr
        ·cases hr
         exact ⟨ha _,by simp only [Yeh]; omega⟩
        ·cases hr
       ·cases hr
theorem Zfd : ∀ {n : Nat} {x : Rd},Xa l n = some x → ∀ k,k ≤ n → ∃ y,Xa l k = some y
 | 0,x,h,k,hk => ⟨x,by rw [show k = 0 from by omega]; exact h⟩
 | n + 1,x,h,k,hk => by
  by_cases e : k = n + 1
  ·exact ⟨x,by rw [e]; exact h⟩
  ·cases hn : Xa l n with
   | none => unfold Xa at h; rw [hn] at h; cases h
   | some y => exact Zfd hn k (by omega)
theorem Zkn {n : Nat} {y : Rd} (h : Xa l n = some x) (hk : k < n) (hy : Xa l k = some y) (hr : l[k]? = some r) : ∃ z,Xa l (k + 1) = some z ∧ Zck y r k = some z := by
 obtain ⟨z,hz⟩ := Zfd h (k + 1) (by omega)
 refine ⟨z,hz,?_⟩
 unfold Xa at hz
 rw [hy] at hz
 simp only at hz
 rw [Yd4,hr] at hz
 exact hz
def Yy (w : World) (a : Option Addr) (xs : List Value) : Prop := ∀ (j : Nat) (u : Value),xs[j]? = some u → ∃ g,a = some ⟨g,0,none⟩ ∧ w.cell? ⟨g,j,none⟩ = some u
theorem Yy.no (h : Yy w a xs) (ho : Zb No w w') : Yy w' a xs := fun j u hu => by
 obtain ⟨g,h1,h2⟩ := h j u hu
 exact ⟨g,h1,Zd h2 ho (fun h => h)⟩
theorem Yd.src {lb : Nat} {wr : World} (h : Yd own w lb e size k xs v wr) : ∃ a c,v = .slice a k c ∧ Yy wr a xs := by
 obtain ⟨own',_,h2,_,_⟩ := h
 rcases h2.form with ⟨rfl,rfl,rfl⟩ | ⟨g,cap,rfl,_,_,_,_,_,hc⟩
 ·exact ⟨none,0,rfl,fun j u hu => by simp at hu⟩
 ·exact ⟨_,_,rfl,fun j u hu => ⟨g,rfl,hc j u hu⟩⟩
theorem Zfq (l : List Rec) (h : l[k]? = some r) (j : Nat) (hj : j < 8) : (Z5 l)[k * 8 + j]? = (V8 r)[j]? := by
 induction l generalizing k with
 | nil => simp at h
 | cons a l ih =>
  cases k with
  | zero =>
   simp only [Yd7,Yee.injEq] at h
   subst h
   simp only [Z5,Yd5,Yes,Yer]
   rw [Yea (by simp [V8]; omega)]
  | succ k =>
   have := ih (k:=k) (by simpa using h)
   rw [show (k + 1) * 8 + j = (k * 8 + j) + 8 from by omega]
   simp only [Z5,Yd5] at this ⊢
   rw [Yd9 (by simp [V8]),show (k * 8 + j) + 8 - (V8 a).length = k * 8 + j from by simp [V8]]
   exact this
def Zke (w : World) (l : List Rec) (b mb k : Nat) (wr : World) : Prop := ∃ own' v' y,(∀ b,b < w.heap.size → own' b = 19) ∧ Zki own' wr b mb v' y ∧ Zb No w wr ∧ Xa l k = some y ∧ y.at_.length ≤ k ∧ y.calls.length ≤ k
theorem Zhy (l : List Rec) (hl : Yy w a (Z5 l)) (hlen : l.length ≤ 1000) (hx : Xa l l.length = some x) (hb : ∀ r ∈ l,-1 ≤ r.o ∧ r.o ≤ 100000) (own : Nat → Nat) (lb : Nat) :
  Calls Ydz 69 #[.slice a l.length c] w fun e w' => ∃ u,e = .returned (.tuple #[u,.bool true]) ∧ Yd own w lb 105 5 x.calls.length (Yc x.calls) u w' := by
 have HL := Ydy hl
 have HX := Ydy hx
 have HB := Ydy hb
 have hmm := @run_makeMap Ydz
 have HFIN : Hid (∀ wr b mb,Zke w l b mb l.length wr → ∃ v',wr.cell? ⟨b,1,none⟩ = some v' ∧ Yd own w lb 105 5 x.calls.length (Yc x.calls) v' wr) := Ydy (fun wr b mb q => by
  obtain ⟨own',v',y,q1,q2,q3,q4,_,_⟩ := q
  rw [hx] at q4
  cases q4
  refine ⟨v',Za q2.block rfl,fun k => if k < w.heap.size then own k else lb,fun k hk => if_pos hk,⟨q2.row.1,fun g hg => ?_⟩,q3,fun g hg => ?_⟩
  ·have h16 := q2.row.2 g hg
   have : ¬ g < w.heap.size := fun hlt => by rw [q1 g hlt] at h16; omega
   show (if g < w.heap.size then own g else lb) = lb
   rw [if_neg this]
  ·have h16 := q2.row.2 g hg
   exact Nat.le_of_not_lt fun hlt => by rw [q1 g hlt] at h16; omega)
 clear hl hx hb
 go_enter Tryz.func69,Tryz.ntmps69
 go_wp2
 have H0 : Hid (Zke w l (w.heap.size + 1) w.heap.size 0 ((w.alloc (.map #[] 0)).alloc (.cells #[.map (some w.heap.size),.slice none 0 0] 217))) := Ydy ⟨lab (lab (fun _ => 19) w.heap.size 15) (w.heap.size + 1) 14,.slice none 0 0,⟨[],[]⟩,fun k hk => by rw [Zq (by omega),Zq (by omega)],⟨Zn _ _ _,by rw [Zq (by omega),Zn],Kj w _ _,(Zs.made w).alloc _,Row.nil _ _ _ _ _,List.nodup_nil,fun t p h => by simp [Zk] at h⟩,((Yd1 No w).alloc _).alloc _,rfl,Nat.le_refl _,Nat.le_refl _⟩
 generalize w.heap.size + 1 = b at *
 generalize w.heap.size = mb at *
 generalize hn : l.length = n at *
 have HN := Ydy hn
 clear hn hmm
 go_loopw [12] (fun i wr => ∃ k : Nat,k ≤ n ∧ i = .int .i64 (k : Int) ∧ Zke w l b mb k wr) (fun i _ => n - (intOf i).toNat)
 case atStart => exact ⟨0,Yed _,rfl,H0.out⟩
 case round =>
  obtain ⟨k,hk,rfl,own',v',y,r1,r2,r3,r4,r5,r6⟩ := hrel
  by_cases hlt : k < n
  ·have hkb : decide ((k : Int) < (n : Int)) = true := decide_eq_true (by omega)
   have hk0 : (0 : Int) ≤ (k : Int) := by omega
   have hk1 : (k : Int) < (n : Int) := by omega
   have hkl : k < l.length := by have := HN.out; omega
   obtain ⟨r,hr⟩ : ∃ r,l[k]? = some r := ⟨_,Yd0 hkl⟩
   have hrm : r ∈ l := Yef hr
   obtain ⟨z,hz,hrd⟩ := Zkn HX.out (by have := HN.out; omega) r4 hr
   have hbd := HB.out r hrm
   have hlz := Zvz r2.keys hrd
   have cells : ∀ j,j < 8 → ∃ g,a = some ⟨g,0,none⟩ ∧ ∀ u,(V8 r)[j]? = some u → wr.cell? ⟨g,k * 8 + j,none⟩ = some u := fun j hj => by
    obtain ⟨u,hu⟩ : ∃ u,(V8 r)[j]? = some u := ⟨_,Yd0 (by simp [V8]; omega)⟩
    obtain ⟨g,h1,h2⟩ := HL.out (k * 8 + j) u (by rw [Zfq l hr j hj]; exact hu)
    exact ⟨g,h1,fun u' hu' => by rw [hu] at hu'; cases hu'; exact Zd h2 r3 (fun h => h)⟩
   obtain ⟨g,hga,g0⟩ := cells 0 (by omega)
   subst hga
   have gj : ∀ j,j < 8 → ∀ u,(V8 r)[j]? = some u → wr.cell? ⟨g,k * 8 + j,none⟩ = some u := fun j hj u hu => by
    obtain ⟨g',h1,h2⟩ := cells j hj
    cases h1
    exact h2 u hu
   have q0 : wr.cell? ⟨g,k * 8,none⟩ = some (.int .i64 r.t) := g0 _ rfl
   have q1 : wr.cell? ⟨g,k * 8 + 1,none⟩ = some (.int .i64 r.o) := gj 1 (by omega) _ rfl
   have q2 : wr.cell? ⟨g,k * 8 + 2,none⟩ = some (.int .i64 r.a) := gj 2 (by omega) _ rfl
   have q3 : wr.cell? ⟨g,k * 8 + 3,none⟩ = some (.int .i64 r.c.d) := gj 3 (by omega) _ rfl
   have q4 : wr.cell? ⟨g,k * 8 + 4,none⟩ = some (.int .i64 r.c.k) := gj 4 (by omega) _ rfl
   have q5 : wr.cell? ⟨g,k * 8 + 5,none⟩ = some (.int .i64 r.c.v) := gj 5 (by omega) _ rfl
   have q6 : wr.cell? ⟨g,k * 8 + 6,none⟩ = some (.bool r.c.h) := gj 6 (by omega) _ rfl
   have q7 : wr.cell? ⟨g,k * 8 + 7,none⟩ = some (.int .i64 r.e) := gj 7 (by omega) _ rfl
   have RD := Ydy (Zn8 (r2.no ((Yd1 No wr).alloc (Kk r))) r k hrd ⟨by omega,by omega⟩ (by omega) (by omega))
   have NX : Hid (∀ w',RdQ own' (wr.alloc (Kk r)) b mb z w' → Zke w l b mb (k + 1) w') := Ydy (fun w' q => by
    obtain ⟨own2,v2,e1,e2,e3⟩ := q
    have hsz := r3.size
    refine ⟨own2,v2,z,fun k hk => ?_,e2,(r3.trans ((Yd1 No wr).alloc (Kk r))).then e3 (fun i hi hT => ?_),hz,by omega,by omega⟩
    ·rw [e1 k (by simp; omega)]; exact r1 k hk
    ·have hT' : own' i = 14 ∨ own' i = 15 ∨ own' i = 16 := hT
     rw [r1 i hi] at hT'
     omega)
   have hgl : g < wr.heap.size := Yd2 wr _ q0
   have hbl : b < wr.heap.size := Ze r2.block
   clear r1 r2 r3 r4 r5 r6 hr hrm hz hrd hbd hlz cells g0 gj hkl
   unfold V3 Kk at RD
   unfold Kk at NX
   go_wp2_with fail
   refine (RD.out).mono ?_
   rintro e w5 ⟨rfl,h5⟩
   have H5 := Ydy (NX.out _ h5)
   clear RD NX h5 q0 q1 q2 q3 q4 q5 q6 q7
   go_wp2
   go_roundw
   case rel => exact ⟨k + 1,by omega,by go_num,H5.out⟩
   case measure => simp [intOf]; omega
  ·have hkn : k = n := by omega
   subst hkn
   have HC : Hid (Zke w l b mb k wr) := Ydy ⟨own',v',y,r1,r2,r3,r4,r5,r6⟩
   obtain ⟨vv,c1,hg⟩ := HFIN.out wr b mb HC.out
   have HG := Ydy hg
   clear r1 r2 r3 r4 r5 r6 hg
   go_wp2
   go_ret2
   exact ⟨vv,rfl,HG.out⟩
theorem Zax (l : List Rec) (hl : Yy w a (Z5 l)) (hlen : l.length ≤ 1000) (hr : J4 l = true) (hb : ∀ r ∈ l,-1 ≤ r.o ∧ r.o ≤ 100000) :
  Calls Ydz 36 #[.slice a l.length c] w fun e w' => e = .returned (.bool true) ∧ Zb No w w' := by
 obtain ⟨x,hx⟩ : ∃ x,Xa l l.length = some x := by
  unfold J4 Zes at hr
  cases h : Xa l l.length with
  | none => rw [h] at hr; simp at hr
  | some x => exact ⟨x,rfl⟩
 have HC := Ydy (Zhy (w:=w) (a:=a) (c:=c) l hl hlen hx hb (fun _ => 19) 14)
 clear hl hx hb hr
 go_enter Tryz.func36,Tryz.ntmps36
 go_wp2_with (refine (HC.out).mono ?_; rintro e w1 ⟨u,rfl,h1⟩; have H1 := Ydy h1.only; clear h1)
 go_ret
 exact ⟨rfl,H1.out⟩
theorem Zd0 (l : List Com) (c : Com) : ((l ++ [c]).flatMap Vd) = l.flatMap Vd ++ Vd c := by simp
def Zbq (l : List Rec) (k : Nat) : List Com := ((l.take k).filter (fun r => decide (r.a = 2))).map (·.c)
theorem Zwv (hr : l[k]? = some r) (ha : r.a = 2) : Zbq l (k + 1) = Zbq l k ++ [r.c] := by
 unfold Zbq
 rw [Yd6,hr]
 simp [Yeb,ha]
theorem Zzg (hr : l[k]? = some r) (ha : r.a ≠ 2) : Zbq l (k + 1) = Zbq l k := by
 unfold Zbq
 rw [Yd6,hr]
 simp [Yeb,ha]
theorem Zwu (l : List Rec) (k : Nat) : (Zbq l k).length ≤ l.length := by
 unfold Zbq
 have h1 := Yeo (fun r : Rec => decide (r.a = 2)) (l.take k)
 have h2 : (l.take k).length ≤ l.length := by rw [Yej]; exact Nat.min_le_right _ _
 rw [List.length_map]
 omega
theorem Zb6 (l : List Rec) (hl : Yy w a (Z5 l)) (hlen : l.length ≤ 1000) (hr : J4 l = true) (hb : ∀ r ∈ l,-1 ≤ r.o ∧ r.o ≤ 100000) (own : Nat → Nat) (lb : Nat) :
  Calls Ydz 13 #[.slice a l.length c] w fun e w' => ∃ u,e = .returned u ∧ Yd own w lb 72 4 (Z8 l).length ((Z8 l).flatMap Vd) u w' := by
 have HL := Ydy hl
 have HR := Ydy (Zax (w:=w) (a:=a) (c:=c) l hl hlen hr hb)
 have HFIN : Hid (Z8 l = Zbq l l.length) := Ydy (by unfold Z8 Zbq; rw [if_pos hr,List.take_length])
 clear hl hb hr
 generalize hn : l.length = n at *
 have HN := Ydy hn
 clear hn
 go_enter Tryz.func13,Tryz.ntmps13
 go_wp2_with (refine (HR.out).mono ?_; rintro e w1 ⟨rfl,h1⟩; have H1 := Ydy h1; clear h1)
 have H0 : Hid (Yd own w lb 72 4 (Zbq l 0).length ((Zbq l 0).flatMap Vd) (.slice none 0 0) w1) := Ydy (Yd.nil own w lb 72 4 H1.out)
 clear HR H1
 go_loopw [3,11] (fun v i wr => ∃ k : Nat,k ≤ n ∧ i = .int .i64 (k : Int) ∧ Yd own w lb 72 4 (Zbq l k).length ((Zbq l k).flatMap Vd) v wr) (fun _ i _ => n - (intOf i).toNat)
 case atStart => exact ⟨0,Yed _,rfl,H0.out⟩
 case round =>
  obtain ⟨k,hk,rfl,hG⟩ := hrel
  by_cases hlt : k < n
  ·have hkb : decide ((k : Int) < (n : Int)) = true := decide_eq_true (by omega)
   have hk0 : (0 : Int) ≤ (k : Int) := by omega
   have hk1 : (k : Int) < (n : Int) := by omega
   have hkl : k < l.length := by have := HN.out; omega
   obtain ⟨r,hr⟩ : ∃ r,l[k]? = some r := ⟨_,Yd0 hkl⟩
   have ho := hG.only
   have cells : ∀ j,j < 8 → ∃ g,a = some ⟨g,0,none⟩ ∧ ∀ u,(V8 r)[j]? = some u → wr.cell? ⟨g,k * 8 + j,none⟩ = some u := fun j hj => by
    obtain ⟨u,hu⟩ : ∃ u,(V8 r)[j]? = some u := ⟨_,Yd0 (by simp [V8]; omega)⟩
    obtain ⟨g,h1,h2⟩ := HL.out (k * 8 + j) u (by rw [Zfq l hr j hj]; exact hu)
    exact ⟨g,h1,fun u' hu' => by rw [hu] at hu'; cases hu'; exact Zd h2 ho (fun h => h)⟩
   obtain ⟨g,hga,g0⟩ := cells 0 (by omega)
   subst hga
   have gj : ∀ j,j < 8 → ∀ u,(V8 r)[j]? = some u → wr.cell? ⟨g,k * 8 + j,none⟩ = some u := fun j hj u hu => by
    obtain ⟨g',h1,h2⟩ := cells j hj
    cases h1
    exact h2 u hu
   have q0 : wr.cell? ⟨g,k * 8,none⟩ = some (.int .i64 r.t) := g0 _ rfl
   have q1 : wr.cell? ⟨g,k * 8 + 1,none⟩ = some (.int .i64 r.o) := gj 1 (by omega) _ rfl
   have q2 : wr.cell? ⟨g,k * 8 + 2,none⟩ = some (.int .i64 r.a) := gj 2 (by omega) _ rfl
   have q3 : wr.cell? ⟨g,k * 8 + 3,none⟩ = some (.int .i64 r.c.d) := gj 3 (by omega) _ rfl
   have q4 : wr.cell? ⟨g,k * 8 + 4,none⟩ = some (.int .i64 r.c.k) := gj 4 (by omega) _ rfl
   have q5 : wr.cell? ⟨g,k * 8 + 5,none⟩ = some (.int .i64 r.c.v) := gj 5 (by omega) _ rfl
   have q6 : wr.cell? ⟨g,k * 8 + 6,none⟩ = some (.bool r.c.h) := gj 6 (by omega) _ rfl
   have q7 : wr.cell? ⟨g,k * 8 + 7,none⟩ = some (.int .i64 r.e) := gj 7 (by omega) _ rfl
   have hgl : g < wr.heap.size := Yd2 wr _ q0
   have hne1 : g ≠ wr.heap.size := Yd3 hgl
   by_cases ha : r.a = 2
   ·have hab : (r.a == 2) = true := by rw [ha]; rfl
    have E : Hid (Zbq l (k + 1) = Zbq l k ++ [r.c]) := Ydy (Zwv hr ha)
    have hm : Hid ((Zbq l k).length ≤ 1000) := Ydy (by have := Zwu l k; have := HN.out; omega)
    have HG := Ydy hG
    obtain ⟨own',hA,hB⟩ := hG.app
    have HNN : Hid (∀ o1 o2,((wr.alloc o1).alloc o2).heap[wr.heap.size + 1]? = some o2) := Ydy (fun o1 o2 => by have := Zh (wr.alloc o1) o2; rwa [show (wr.alloc o1).heap.size = wr.heap.size + 1 from by simp] at this)
    have HA := Ydy hA
    have HB := Ydy hB
    clear cells g0 gj hkl hr ha hA hB ho hG
    go_wp2_with (at_builtin; refine Xx (by rfl) _ _ _ (by rfl) Zky (by rfl) (HA.out _ (((Yd1 No wr).alloc (Kk r)).alloc _)) (B:=wr.heap.size + 1) (c:=1) (cs:=#[.int .i64 r.c.d,.int .i64 r.c.k,.int .i64 r.c.v,.bool r.c.h]) (tb:=72) (fr:=(0,0)) (by rfl) (HNN.out _ _) (by rfl) (by simp [Value.oneCell']) (Nat.le_trans hm.out (by decide)) ?_; intro g4 cap4 w4 r4 hg4 hor hsz; have R4 := Ydy (HB.out _ _ _ _ _ (((Yd1 No wr).alloc (Kk r)).alloc _) r4 hg4 hor); clear r4 hg4 hor hsz)
    go_roundw
    case rel =>
     refine ⟨k + 1,by omega,by go_num,?_⟩
     rw [E.out,Yec,Zd0]
     exact R4.out
    case measure => simp [intOf]; omega
   ·have hab : (r.a == 2) = false := beq_eq_false_iff_ne.2 ha
    have E : Hid (Zbq l (k + 1) = Zbq l k) := Ydy (Zzg hr ha)
    have HG := Ydy hG
    clear cells g0 gj hkl hr ha ho hG
    go_wp2
    go_roundw
    case rel =>
     refine ⟨k + 1,by omega,by go_num,?_⟩
     rw [E.out]
     obtain ⟨own',e1,e2,e3,e4⟩ := HG.out
     have e5 := e3.trans ((Yd1 No _).alloc (Kk r))
     exact ⟨own',e1,e2.kept (Ext.refl _ _) ((Yd1 No _).alloc (Kk r)) (fun _ _ _ h => h),e5,e4⟩
    case measure => simp [intOf]; omega
  ·have hkn : k = n := by omega
   subst hkn
   have hG' := Ydy hG
   clear hG
   go_wp2
   go_ret
   refine ⟨_,rfl,?_⟩
   rw [HFIN.out]
   exact hG'.out
def Zdf (c : Com) : Obj := .cells #[.int .i64 c.d,.int .i64 c.k,.int .i64 c.v,.bool c.h] 72
def Zql (c : Com) : Value := .agg #[.int .i64 c.d,.int .i64 c.k,.int .i64 c.v,.bool c.h]
theorem Zff (l : List Com) {c : Com} (h : l[k]? = some c) (j : Nat) (hj : j < 4) : (l.flatMap Vd)[k * 4 + j]? = (Vd c)[j]? := by
 induction l generalizing k with
 | nil => simp at h
 | cons a l ih =>
  cases k with
  | zero =>
   simp only [Yd7,Yee.injEq] at h
   subst h
   simp only [Yd5,Yes,Yer]
   rw [Yea (by simp [Vd]; omega)]
  | succ k =>
   have := ih (k:=k) (by simpa using h)
   rw [show (k + 1) * 4 + j = (k * 4 + j) + 4 from by omega]
   simp only [Yd5]
   rw [Yd9 (by simp [Vd]),show (k * 4 + j) + 4 - (Vd a).length = k * 4 + j from by simp [Vd]]
   exact this
theorem Zh1 {l : List Com} (h : Yy w a (l.flatMap Vd)) {c : Com} (hr : l[k]? = some c) : ∃ g,a = some ⟨g,0,none⟩ ∧ w.cell? ⟨g,k * 4,none⟩ = some (.int .i64 c.d) ∧ w.cell? ⟨g,k * 4 + 1,none⟩ = some (.int .i64 c.k) ∧ w.cell? ⟨g,k * 4 + 2,none⟩ = some (.int .i64 c.v) ∧ w.cell? ⟨g,k * 4 + 3,none⟩ = some (.bool c.h) := by
 obtain ⟨g,rfl,h0⟩ := h (k * 4 + 0) _ ((Zff l hr 0 (by omega)).trans rfl)
 have gj : ∀ j,j < 4 → ∀ u,(Vd c)[j]? = some u → w.cell? ⟨g,k * 4 + j,none⟩ = some u := fun j hj u hu => by
  obtain ⟨g',h1,h2⟩ := h (k * 4 + j) u (by rw [Zff l hr j hj]; exact hu)
  cases h1
  exact h2
 exact ⟨g,rfl,h0,gj 1 (by omega) _ rfl,gj 2 (by omega) _ rfl,gj 3 (by omega) _ rfl⟩
def Qh (l : List Com) (k : Nat) : List Int := ((l.take k).filter (fun c => decide (c.d = 4))).map (·.k)
theorem Zvk {l : List Com} {r : Com} (hr : l[k]? = some r) (ha : r.d = 4) : Qh l (k + 1) = Qh l k ++ [r.k] := by
 unfold Qh
 rw [Yd6,hr]
 simp [Yeb,ha]
theorem Zyj {l : List Com} {r : Com} (hr : l[k]? = some r) (ha : r.d ≠ 4) : Qh l (k + 1) = Qh l k := by
 unfold Qh
 rw [Yd6,hr]
 simp [Yeb,ha]
theorem Zvj (l : List Com) (k : Nat) : (Qh l k).length ≤ l.length := by
 unfold Qh
 have h1 := Yeo (fun r : Com => decide (r.d = 4)) (l.take k)
 have h2 : (l.take k).length ≤ l.length := by rw [Yej]; exact Nat.min_le_right _ _
 rw [List.length_map]
 omega
theorem Zc9 (l : List Int) (z : Int) : Y1 (l ++ [z]) = Y1 l ++ [.int .i64 z] := by simp [Y1]
theorem Zfi (l : List Com) (hl : Yy w a (l.flatMap Vd)) (hlen : l.length ≤ 1000) (own : Nat → Nat) (lb : Nat) :
  Calls Ydz 12 #[.slice a l.length c] w fun e w' => ∃ u,e = .returned u ∧ Yd own w lb 3 1 (Qb l).length (Y1 (Qb l)) u w' := by
 have HL := Ydy hl
 have HFIN : Hid (Qb l = Qh l l.length) := Ydy (by unfold Qb Qh; rw [List.take_length])
 have H0 : Hid (Yd own w lb 3 1 (Qh l 0).length (Y1 (Qh l 0)) (.slice none 0 0) w) := Ydy (Yd.nil own w lb 3 1 (Yd1 _ _))
 clear hl
 generalize hn : l.length = n at *
 have HN := Ydy hn
 clear hn
 go_enter Tryz.func12,Tryz.ntmps12
 go_wp2
 go_loopw [3,8] (fun v i wr => ∃ k : Nat,k ≤ n ∧ i = .int .i64 (k : Int) ∧ Yd own w lb 3 1 (Qh l k).length (Y1 (Qh l k)) v wr) (fun _ i _ => n - (intOf i).toNat)
 case atStart => exact ⟨0,Yed _,rfl,H0.out⟩
 case round =>
  obtain ⟨k,hk,rfl,hG⟩ := hrel
  by_cases hlt : k < n
  ·have hkb : decide ((k : Int) < (n : Int)) = true := decide_eq_true (by omega)
   have hk0 : (0 : Int) ≤ (k : Int) := by omega
   have hk1 : (k : Int) < (n : Int) := by omega
   have hkl : k < l.length := by have := HN.out; omega
   obtain ⟨r,hr⟩ : ∃ r,l[k]? = some r := ⟨_,Yd0 hkl⟩
   have ho := hG.only
   obtain ⟨g,hga,q0,q1,q2,q3⟩ := Zh1 HL.out hr
   subst hga
   replace q0 := Zd q0 ho (fun h => h)
   replace q1 := Zd q1 ho (fun h => h)
   replace q2 := Zd q2 ho (fun h => h)
   replace q3 := Zd q3 ho (fun h => h)
   have hgl : g < wr.heap.size := Yd2 wr _ q0
   have hne1 : g ≠ wr.heap.size := Yd3 hgl
   by_cases ha : r.d = 4
   ·have hab : (r.d == 4) = true := by rw [ha]; rfl
    have E : Hid (Qh l (k + 1) = Qh l k ++ [r.k]) := Ydy (Zvk hr ha)
    have hm : Hid ((Qh l k).length ≤ 1000) := Ydy (by have := Zvj l k; have := HN.out; omega)
    have HG := Ydy hG
    obtain ⟨own',hA,hB⟩ := hG.app
    have HNN : Hid (∀ o1 o2,((wr.alloc o1).alloc o2).heap[wr.heap.size + 1]? = some o2) := Ydy (fun o1 o2 => by have := Zh (wr.alloc o1) o2; rwa [show (wr.alloc o1).heap.size = wr.heap.size + 1 from by simp] at this)
    have HA := Ydy hA
    have HB := Ydy hB
    clear hkl hr ha hA hB ho hG
    go_wp2_with (at_builtin; refine Xx (by rfl) _ _ _ (by rfl) Zd1 (by rfl) (HA.out _ (((Yd1 No wr).alloc (Zdf r)).alloc _)) (B:=wr.heap.size + 1) (c:=1) (cs:=#[.int .i64 r.k]) (tb:=3) (fr:=(0,0)) (by rfl) (HNN.out _ _) (by rfl) (by simp [Value.oneCell']) (Nat.le_trans hm.out (by decide)) ?_; intro g4 cap4 w4 r4 hg4 hor hsz; have R4 := Ydy (HB.out _ _ _ _ _ (((Yd1 No wr).alloc (Zdf r)).alloc _) r4 hg4 hor); clear r4 hg4 hor hsz)
    go_roundw
    case rel =>
     refine ⟨k + 1,by omega,by go_num,?_⟩
     rw [E.out,Yec,Zc9]
     exact R4.out
    case measure => simp [intOf]; omega
   ·have hab : (r.d == 4) = false := beq_eq_false_iff_ne.2 ha
    have E : Hid (Qh l (k + 1) = Qh l k) := Ydy (Zyj hr ha)
    have HG := Ydy hG
    clear hkl hr ha ho hG
    go_wp2
    go_roundw
    case rel =>
     refine ⟨k + 1,by omega,by go_num,?_⟩
     rw [E.out]
     obtain ⟨own',e1,e2,e3,e4⟩ := HG.out
     exact ⟨own',e1,e2.kept (Ext.refl _ _) ((Yd1 No _).alloc (Zdf r)) (fun _ _ _ h => h),e3.trans ((Yd1 No _).alloc (Zdf r)),e4⟩
    case measure => simp [intOf]; omega
  ·have hkn : k = n := by omega
   subst hkn
   have hG' := Ydy hG
   clear hG
   go_wp2
   go_ret
   refine ⟨_,rfl,?_⟩
   rw [HFIN.out]
   exact hG'.out
theorem Zu2 (d k v v0 : Int) (h h0 : Bool) (u z : Int) (f : Bool) (hl : Hid (∀ W,Zb No w W → (Instr.lookup 173 (.map (some mb)) (.int .i64 k) true).run Ydz W = .ok (.tuple #[.int .i64 z,.bool f]) W))
  (hd : (d = 2 ∧ v0 = u ∧ h0 = false) ∨ ((d = 1 ∨ d = 3) ∧ v0 = z ∧ h0 = f) ∨ (d = 4 ∧ f = true ∧ v0 = z ∧ h0 = true)) (hv : v = v0) (hh : h = h0) :
  Calls Ydz 119 #[.map (some mb),.int .i64 d,.int .i64 k,.int .i64 u] w fun e w' => e = .returned (.tuple #[.agg #[.int .i64 d,.int .i64 k,.int .i64 v,.bool h],.bool true]) ∧ Zb No w w' := by
 subst hv
 subst hh
 have l1 : ∀ o,(Instr.lookup 173 (.map (some mb)) (.int .i64 k) true).run Ydz (w.alloc o) = .ok (.tuple #[.int .i64 z,.bool f]) (w.alloc o) := fun o => hl.out _ ((Yd1 No w).alloc o)
 have l2 : ∀ o n,(Instr.lookup 173 (.map (some mb)) (.int .i64 k) true).run Ydz ((w.alloc o).drewN n) = .ok (.tuple #[.int .i64 z,.bool f]) ((w.alloc o).drewN n) := fun o n => hl.out _ (((Yd1 No w).alloc o).drewN n)
 rcases hd with ⟨rfl,rfl,rfl⟩ | ⟨rfl | rfl,rfl,rfl⟩ | ⟨rfl,rfl,rfl,rfl⟩
 ·go_enter Yek,Yei
  go_wp2
  refine bodyPost_ret (v:=.tuple #[.agg #[.int .i64 2,.int .i64 k,.int .i64 v,.bool false],.bool true]) (by simp [results,Yeg,go_sem]) rfl ⟨rfl,?_⟩
  exact ((Yd1 No w).alloc _).alloc _
 ·go_enter Yek,Yei
  go_wp2
  refine bodyPost_ret (v:=.tuple #[.agg #[.int .i64 1,.int .i64 k,.int .i64 v,.bool h],.bool true]) (by simp [results,Yeg,go_sem]) rfl ⟨rfl,?_⟩
  exact ((Yd1 No w).alloc _).alloc _
 ·go_enter Yek,Yei
  go_wp2
  refine bodyPost_ret (v:=.tuple #[.agg #[.int .i64 3,.int .i64 k,.int .i64 v,.bool h],.bool true]) (by simp [results,Yeg,go_sem]) rfl ⟨rfl,?_⟩
  exact ((Yd1 No w).alloc _).alloc _
 ·go_enter Yek,Yei
  go_wp2
  refine bodyPost_ret (v:=.tuple #[.agg #[.int .i64 4,.int .i64 k,.int .i64 v,.bool true],.bool true]) (by simp [results,Yeg,go_sem]) rfl ⟨rfl,?_⟩
  exact ((Yd1 No w).alloc _).alloc _
theorem Zx9 (hm : Zs w mb (kf s) s.length) {c : Com} (hk : I64 c.k) (hc : Zec s c = some c) :
  Calls Ydz 119 #[.map (some mb),.int .i64 c.d,.int .i64 c.k,.int .i64 c.v] w fun e w' => e = .returned (.tuple #[Zql c,.bool true]) ∧ Zb No w w' := by
 have hl : Hid (∀ W,Zb No w W → (Instr.lookup 173 (.map (some mb)) (.int .i64 c.k) true).run Ydz W = .ok (.tuple #[.int .i64 ((Zk s c.k).getD 0),.bool (Zk s c.k).isSome]) W) := Ydy (fun W hW => by
  have := (hm.kept hW (fun h => h)).look (t:=173) (e:=3) Tryz.underlying173 (Zjb W) hk
  rw [this,Kw]
  unfold kf
  cases Zk s c.k <;> rfl)
 obtain ⟨d,k,v,h⟩ := c
 unfold Zec at hc
 simp only at hc hl hk ⊢
 refine Zu2 d k v v h h v ((Zk s k).getD 0) (Zk s k).isSome hl ?_ rfl rfl
 split at hc
 ·rename_i e
  cases hc
  exact .inl ⟨e,rfl,rfl⟩
 ·split at hc
  ·rename_i e
   simp only [Yee.injEq,Com.mk.injEq,true_and] at hc
   exact .inr (.inl ⟨e,hc.1.symm,hc.2.symm⟩)
  ·split at hc
   ·rename_i e
    simp only [Yee.injEq,Com.mk.injEq,true_and] at hc
    exact .inr (.inr ⟨e.1,e.2,hc.2.1.symm,hc.2.2.symm⟩)
   ·cases hc
end
def Zad (s : List (Int × Int)) (l : List Com) (k : Nat) : List (Int × Int) := (l.take k).foldl doC s
theorem Zlh : ∀ (l : List Com) (s : List (Int × Int)),Vv s l = l.length → ∀ {k : Nat} {c : Com},l[k]? = some c → Zec (Zad s l k) c = some c
 | [],_,_,k,c,h => by simp at h
 | c0 :: l,s,hl,k,c,h => by
  unfold Vv at hl
  split at hl
  ·rename_i h0
   cases k with
   | zero =>
    simp only [Yd7,Yee.injEq] at h
    subst h
    exact h0
   | succ k =>
    simp only [List.length_cons,Nat.add_right_cancel_iff] at hl
    exact Zlh l (doC s c0) hl (by simpa using h)
  ·simp at hl
theorem Zka {l : List Com} {c : Com} (h : l[k]? = some c) : Zad s l (k + 1) = doC (Zad s l k) c := by
 unfold Zad
 rw [Yd6,h]
 simp
theorem Yab (hs : Yo s) (c : Com) : Yo (doC s c) ∧ (doC s c).length ≤ s.length + 1 := by
 unfold doC
 split
 ·exact ⟨hs.put _ _,by rw [Xk hs]; split <;> omega⟩
 ·split
  ·exact ⟨hs.del _,by rw [Qk hs]; split <;> omega⟩
  ·exact ⟨hs,by omega⟩
def atV (cs : List Qq) : Nat → List (Int × Int)
 | 0 => []
 | n + 1 => match cs[n]? with | none => atV cs n | some c => Yn (atV cs n) c.a n
def K6 (l : List Rec) (m : List (Int × Int)) : Nat → List Int
 | 0 => []
 | n + 1 => match l[n]? with
  | none => K6 l m n
  | some r => if r.a = 2 then K6 l m n ++ [if r.o < 0 then -1 else (Zk m (n : Int)).getD 0] else K6 l m n
def Ze1 (l : List Rec) (cs : List Qq) : List Int := K6 l (atV cs cs.length) l.length
def Zjj (a b : Qq) : Bool := decide (0 ≤ a.r) && decide (a.r < b.f)
def Ztr : Qq := ⟨0,0,0,0,0⟩
def Zlf (cs : List Qq) (k j : Int) : Bool := decide (j = k) || Zjj (cs.getD k.toNat Ztr) (cs.getD j.toNat Ztr)
def Zzv : Rec := ⟨0,0,0,⟨0,0,0,false⟩,0⟩
def Zo0 (r : Rec) : Bool := decide (r.e = 0 ∧ 1 ≤ r.c.d ∧ r.c.d ≤ 3)
def Zkk (l : List Rec) (k : Qq) : Bool := decide (0 ≤ k.r ∧ k.a < 0) && Zo0 (l.getD k.r.toNat Zzv)
def Zxf : Cfg := ⟨3,0,0,0,0,2⟩
def ps0 : List (List Op) := [[⟨2,7,70,1⟩,⟨1,7,0,0⟩,⟨4,0,0,0⟩],[⟨2,8,80,9⟩]]
def Ze5 : St × Nat := Qt [0,1] (Xh Zxf ps0) 0 500
section
attribute [local go_sem] Yev Zg Zf
theorem Zd5 {α : Type} (f : α → List Value) (m : Nat) (hf : ∀ a,(f a).length = m) (l : List α) {c : α} (h : l[k]? = some c) (j : Nat) (hj : j < m) : (l.flatMap f)[k * m + j]? = (f c)[j]? := by
 induction l generalizing k with
 | nil => simp at h
 | cons a l ih =>
  cases k with
  | zero =>
   simp only [Yd7,Yee.injEq] at h
   subst h
   simp only [Yd5,Yes,Yer]
   rw [Yea (by rw [hf]; exact hj)]
  | succ k =>
   have := ih (k:=k) (by simpa using h)
   rw [show (k + 1) * m + j = (k * m + j) + m from by rw [Nat.add_mul]; omega]
   simp only [Yd5]
   rw [Yd9 (by rw [hf]; omega),hf,Nat.add_sub_cancel]
   exact this
def Zbs (c : Qq) : Value := .agg #[.int .i64 c.t,.int .i64 c.o,.int .i64 c.f,.int .i64 c.a,.int .i64 c.r]
def Zdy (c : Qq) : Obj := .cells #[.int .i64 c.t,.int .i64 c.o,.int .i64 c.f,.int .i64 c.a,.int .i64 c.r] 105
theorem Vo {l : List Qq} (h : Yy w a (Yc l)) {c : Qq} (hr : l[k]? = some c) : ∃ g,a = some ⟨g,0,none⟩ ∧ w.cell? ⟨g,k * 5,none⟩ = some (.int .i64 c.t) ∧ w.cell? ⟨g,k * 5 + 1,none⟩ = some (.int .i64 c.o) ∧ w.cell? ⟨g,k * 5 + 2,none⟩ = some (.int .i64 c.f) ∧ w.cell? ⟨g,k * 5 + 3,none⟩ = some (.int .i64 c.a) ∧ w.cell? ⟨g,k * 5 + 4,none⟩ = some (.int .i64 c.r) := by
 have G := Zd5 Zbt 5 (fun _ => rfl) l hr
 obtain ⟨g,rfl,h0⟩ := h (k * 5 + 0) _ ((G 0 (by omega)).trans rfl)
 have gj : ∀ j,j < 5 → ∀ u,(Zbt c)[j]? = some u → w.cell? ⟨g,k * 5 + j,none⟩ = some u := fun j hj u hu => by
  obtain ⟨g',h1,h2⟩ := h (k * 5 + j) u ((G j hj).trans hu)
  cases h1
  exact h2
 exact ⟨g,rfl,h0,gj 1 (by omega) _ rfl,gj 2 (by omega) _ rfl,gj 3 (by omega) _ rfl,gj 4 (by omega) _ rfl⟩
theorem Zcu (h : Yy w a (Z5 l)) (hr : l[k]? = some r) : ∃ g,a = some ⟨g,0,none⟩ ∧ w.cell? ⟨g,k * 8,none⟩ = some (.int .i64 r.t) ∧ w.cell? ⟨g,k * 8 + 1,none⟩ = some (.int .i64 r.o) ∧ w.cell? ⟨g,k * 8 + 2,none⟩ = some (.int .i64 r.a) ∧ w.cell? ⟨g,k * 8 + 3,none⟩ = some (.int .i64 r.c.d) ∧ w.cell? ⟨g,k * 8 + 4,none⟩ = some (.int .i64 r.c.k) ∧ w.cell? ⟨g,k * 8 + 5,none⟩ = some (.int .i64 r.c.v) ∧ w.cell? ⟨g,k * 8 + 6,none⟩ = some (.bool r.c.h) ∧ w.cell? ⟨g,k * 8 + 7,none⟩ = some (.int .i64 r.e) := by
 have G := Zd5 V8 8 (fun _ => rfl) l hr
 obtain ⟨g,rfl,h0⟩ := h (k * 8 + 0) _ ((G 0 (by omega)).trans rfl)
 have gj : ∀ j,j < 8 → ∀ u,(V8 r)[j]? = some u → w.cell? ⟨g,k * 8 + j,none⟩ = some u := fun j hj u hu => by
  obtain ⟨g',h1,h2⟩ := h (k * 8 + j) u ((G j hj).trans hu)
  cases h1
  exact h2
 exact ⟨g,rfl,h0,gj 1 (by omega) _ rfl,gj 2 (by omega) _ rfl,gj 3 (by omega) _ rfl,gj 4 (by omega) _ rfl,gj 5 (by omega) _ rfl,gj 6 (by omega) _ rfl,gj 7 (by omega) _ rfl⟩
theorem Ztc (r : Rec) (w : World) : Calls Ydz 42 #[V3 r] w fun e w' => e = .returned (.bool (Zo0 r)) ∧ Zb No w w' := by
 have H1 : Hid (Zb No w (w.alloc (Kk r))) := Ydy ((Yd1 No w).alloc _)
 obtain ⟨t,o,a,⟨d,k,v,hh⟩,er⟩ := r
 unfold V3 Zo0
 unfold Kk at H1
 simp only at H1 ⊢
 by_cases h0 : er = 0
 ·subst h0
  by_cases h1 : 1 ≤ d
  ·by_cases h2 : d ≤ 3
   ·have e1 : decide (1 ≤ d) = true := decide_eq_true h1
    have e2 : decide (d ≤ 3) = true := decide_eq_true h2
    have e3 : decide ((0 : Int) = 0 ∧ 1 ≤ d ∧ d ≤ 3) = true := decide_eq_true ⟨rfl,h1,h2⟩
    rw [e3]
    clear h1 h2 e3
    go_enter Yen,Yel
    go_wp2
    go_ret
    exact ⟨rfl,H1.out⟩
   ·have e1 : decide (1 ≤ d) = true := decide_eq_true h1
    have e2 : decide (d ≤ 3) = false := decide_eq_false h2
    have e3 : decide ((0 : Int) = 0 ∧ 1 ≤ d ∧ d ≤ 3) = false := decide_eq_false (fun h => h2 h.2.2)
    rw [e3]
    clear h1 h2 e3
    go_enter Yen,Yel
    go_wp2
    go_ret
    exact ⟨rfl,H1.out⟩
  ·have e1 : decide (1 ≤ d) = false := decide_eq_false h1
   have e3 : decide ((0 : Int) = 0 ∧ 1 ≤ d ∧ d ≤ 3) = false := decide_eq_false (fun h => h1 h.2.1)
   rw [e3]
   clear h1 e3
   go_enter Yen,Yel
   go_wp2
   go_ret
   exact ⟨rfl,H1.out⟩
 ·have e1 : (er == 0) = false := beq_eq_false_iff_ne.2 h0
  have e3 : decide (er = 0 ∧ 1 ≤ d ∧ d ≤ 3) = false := decide_eq_false (fun h => h0 h.1)
  rw [e3]
  clear h0 e3
  go_enter Yen,Yel
  go_wp2
  go_ret
  exact ⟨rfl,H1.out⟩
theorem Zxd (l : List Rec) (hl : Yy w a (Z5 l)) (hb : w.cell? ⟨b,0,none⟩ = some (.slice a l.length c)) (k : Qq) (hk : Zkk l k = false) (hr : k.r < (l.length : Int)) :
  Calls Ydz 41 #[Zbs k,Pt b] w fun e w' => e = .returned (.bool false) ∧ Zb No w w' := by
 have hbl : b < w.heap.size := Yd2 w _ hb
 have hne : b ≠ w.heap.size := Yd3 hbl
 have H1 : Hid (Zb No w (w.alloc (Zdy k))) := Ydy ((Yd1 No w).alloc _)
 by_cases h1 : 0 ≤ k.r
 ·by_cases h2 : k.a < 0
  ·obtain ⟨n,hn⟩ : ∃ n : Nat,k.r = (n : Int) := ⟨k.r.toNat,by omega⟩
   have hnl : n < l.length := by omega
   obtain ⟨r,hrr⟩ : ∃ r,l[n]? = some r := ⟨_,Yd0 hnl⟩
   have hact : Zo0 r = false := by
    unfold Zkk at hk
    rw [decide_eq_true (show 0 ≤ k.r ∧ k.a < 0 from ⟨h1,h2⟩),hn,Int.toNat_natCast,Yd4,hrr] at hk
    simpa using hk
   have HA : Hid (∀ W,Zb No w W → Calls Ydz 42 #[V3 r] W fun e w' => e = .returned (.bool false) ∧ Zb No w w') := Ydy (fun W hW => (Ztc r W).mono fun e w' q => ⟨by rw [q.1,hact],hW.trans q.2⟩)
   obtain ⟨g,rfl,q0,q1,q2,q3,q4,q5,q6,q7⟩ := Zcu hl hrr
   have hgl : g < w.heap.size := Yd2 w _ q0
   have hneg : g ≠ w.heap.size := Yd3 hgl
   have e2 : decide (k.a < 0) = true := decide_eq_true h2
   have hn0 : (0 : Int) ≤ (n : Int) := by omega
   have hn1 : (n : Int) < (l.length : Int) := by omega
   have hn2 : ¬ ((l.length : Int) ≤ (n : Int)) := by omega
   obtain ⟨t,o,f,ka,kr⟩ := k
   simp only at hn e2 h1 h2 hr hk
   subst hn
   unfold V3 at HA
   unfold Zdy at H1
   unfold Zbs
   simp only at H1 ⊢
   clear hk h2 hr hact hrr hl hnl
   go_enter Yew,Yeu
   go_wp2_with fail
   refine (HA.out _ H1.out).mono ?_
   rintro e w5 ⟨rfl,h5⟩
   have H5 := Ydy h5
   clear h5 HA
   go_wp2
   go_ret
   exact ⟨rfl,H5.out⟩
  ·have e1 : decide (0 ≤ k.r) = true := decide_eq_true h1
   have e2 : decide (k.a < 0) = false := decide_eq_false h2
   obtain ⟨t,o,f,ka,kr⟩ := k
   unfold Zdy at H1
   unfold Zbs
   simp only at H1 e1 e2 ⊢
   clear hk h1 h2 hr hl hb
   go_enter Yew,Yeu
   go_wp2
   go_ret
   exact ⟨rfl,H1.out⟩
 ·have e1 : decide (0 ≤ k.r) = false := decide_eq_false h1
  obtain ⟨t,o,f,ka,kr⟩ := k
  unfold Zdy at H1
  unfold Zbs
  simp only at H1 e1 ⊢
  clear hk h1 hr hl hb
  go_enter Yew,Yeu
  go_wp2
  go_ret
  exact ⟨rfl,H1.out⟩
theorem Zmx (x y : Qq) (w : World) : Calls Ydz 72 #[Zbs x,Zbs y] w fun e w' => e = .returned (.bool (Zjj x y)) ∧ Zb No w w' := by
 have H1 : Hid (Zb No w ((w.alloc (Zdy x)).alloc (Zdy y))) := Ydy (((Yd1 No w).alloc _).alloc _)
 obtain ⟨t,o,f,a,r⟩ := x
 obtain ⟨t',o',f',a',r'⟩ := y
 unfold Zbs Zjj
 unfold Zdy at H1
 simp only at H1 ⊢
 by_cases h1 : 0 ≤ r
 ·have e1 : decide (0 ≤ r) = true := decide_eq_true h1
  rw [e1,Bool.true_and]
  clear h1
  go_enter Tryz.func72,Tryz.ntmps72
  go_wp2
  go_ret
  exact ⟨rfl,H1.out⟩
 ·have e1 : decide (0 ≤ r) = false := decide_eq_false h1
  rw [e1,Bool.false_and]
  clear h1
  go_enter Tryz.func72,Tryz.ntmps72
  go_wp2
  go_ret
  exact ⟨rfl,H1.out⟩
theorem Zmw (l : List Rec) (cs : List Qq) (hl : Yy w a (Z5 l)) (hcs : Yy w a2 (Yc cs)) (hb : w.cell? ⟨b,0,none⟩ = some (.slice a l.length c)) (hk : ∀ k ∈ cs,Zkk l k = false ∧ k.r < (l.length : Int)) (hlen : cs.length ≤ 1000) :
  Calls Ydz 70 #[.slice a2 cs.length c2,.func (.func 41) #[] #[Pt b]] w fun e w' => e = .returned (.int .i64 (-1)) ∧ Zb No w w' := by
 have HCS := Ydy hcs
 have HB : Hid (∀ k ∈ cs,∀ W,Zb No w W → Calls Ydz 41 #[Zbs k,Pt b] W fun e w' => e = .returned (.bool false) ∧ Zb No w w') := Ydy (fun k hm W hW => (Zxd l (hl.no hW) (Zd hb hW (fun h => h)) k (hk k hm).1 (hk k hm).2).mono fun e w' q => ⟨q.1,hW.trans q.2⟩)
 clear hl hcs hb hk
 generalize hn : cs.length = n at *
 have HN := Ydy hn
 clear hn
 go_enter Tryz.func70,Tryz.ntmps70
 go_wp2
 go_loopw [8] (fun i wr => ∃ k : Nat,k ≤ n ∧ i = .int .i64 (k : Int) ∧ Zb No w wr) (fun i _ => n - (intOf i).toNat)
 case atStart => exact ⟨0,Yed _,rfl,Yd1 No w⟩
 case round =>
  obtain ⟨k,hk,rfl,hO⟩ := hrel
  by_cases hlt : k < n
  ·have hkb : decide ((k : Int) < (n : Int)) = true := decide_eq_true (by omega)
   have hk0 : (0 : Int) ≤ (k : Int) := by omega
   have hk1 : (k : Int) < (n : Int) := by omega
   have hkl : k < cs.length := by have := HN.out; omega
   obtain ⟨r,hr⟩ : ∃ r,cs[k]? = some r := ⟨_,Yd0 hkl⟩
   obtain ⟨g,hga,q0,q1,q2,q3,q4⟩ := Vo HCS.out hr
   subst hga
   replace q0 := Zd q0 hO (fun h => h)
   replace q1 := Zd q1 hO (fun h => h)
   replace q2 := Zd q2 hO (fun h => h)
   replace q3 := Zd q3 hO (fun h => h)
   replace q4 := Zd q4 hO (fun h => h)
   have HB1 := Ydy (HB.out r (Yef hr) wr hO)
   clear hkl hr hO
   unfold Zbs at HB1
   go_wp2_with (go_at_call 41; refine (HB1.out).mono ?_; rintro e w5 ⟨rfl,h5⟩; have H5 := Ydy h5; clear h5)
   go_roundw
   case rel => exact ⟨k + 1,by omega,by go_num,H5.out⟩
   case measure => simp [intOf]; omega
  ·have hkn : k = n := by omega
   subst hkn
   have HO := Ydy hO
   clear hO
   go_wp2
   go_ret
   exact ⟨rfl,HO.out⟩
theorem Zhq (l : List Rec) (cs : List Qq) (hl : Yy w a (Z5 l)) (hcs : Yy w a2 (Yc cs)) (hb : w.cell? ⟨b,0,none⟩ = some (.slice a l.length c)) (hk : ∀ k ∈ cs,Zkk l k = false ∧ k.r < (l.length : Int)) (hlen : cs.length ≤ 1000) :
  Calls Ydz 43 #[.slice a2 cs.length c2,.func (.func 41) #[] #[Pt b]] w fun e w' => e = .returned (.bool false) ∧ Zb No w w' := by
 have HI := Ydy (Zmw (c2:=c2) l cs hl hcs hb hk hlen)
 clear hl hcs hb hk hlen
 go_enter Tryz.func43,Tryz.ntmps43
 go_wp2_with (go_at_call 70; refine (HI.out).mono ?_; rintro e w1 ⟨rfl,h1⟩; have H1 := Ydy h1; clear h1)
 go_ret
 exact ⟨rfl,H1.out⟩
theorem Zx4 (cs : List Qq) (k j : Nat) (hcs : Yy w a (Yc cs)) (hk : w.cell? ⟨kb,0,none⟩ = some (.int .i64 (k : Int))) (hc : w.cell? ⟨cb,0,none⟩ = some (.slice a cs.length c)) (hkl : k < cs.length) (hjl : j < cs.length) (hv : Zlf cs k j = false) :
  Calls Ydz 71 #[.int .i64 (j : Int),Pt kb,Pt cb] w fun e w' => e = .returned (.bool false) ∧ Zb No w w' := by
 obtain ⟨x,hx⟩ : ∃ x,cs[k]? = some x := ⟨_,Yd0 hkl⟩
 obtain ⟨y,hy⟩ : ∃ y,cs[j]? = some y := ⟨_,Yd0 hjl⟩
 unfold Zlf at hv
 rw [Int.toNat_natCast,Int.toNat_natCast,Yd4,Yd4,hx,hy,Bool.or_eq_false_iff] at hv
 obtain ⟨hne,hbf⟩ := hv
 have hne' : ¬ ((j : Int) = (k : Int)) := of_decide_eq_false hne
 have e1 : ((j : Int) == (k : Int)) = false := beq_eq_false_iff_ne.2 hne'
 obtain ⟨g,hga,q0,q1,q2,q3,q4⟩ := Vo hcs hx
 obtain ⟨g',hga',p0,p1,p2,p3,p4⟩ := Vo hcs hy
 subst hga
 cases hga'
 have BF : Hid (∀ W,Zb No w W → Calls Ydz 72 #[Zbs x,Zbs y] W fun e w' => e = .returned (.bool false) ∧ Zb No w w') := Ydy (fun W hW => (Zmx x y W).mono fun e w' q => ⟨by rw [q.1]; exact congrArg _ (congrArg _ hbf),hW.trans q.2⟩)
 have hk0 : (0 : Int) ≤ (k : Int) := by omega
 have hk1 : (k : Int) < (cs.length : Int) := by omega
 have hj0 : (0 : Int) ≤ (j : Int) := by omega
 have hj1 : (j : Int) < (cs.length : Int) := by omega
 unfold Zbs at BF
 clear hx hy hbf hne hne' hcs hkl hjl
 generalize cs.length = n at *
 go_enter Tryz.func71,Tryz.ntmps71
 go_wp2
 go_region_held3 (fun w' => w'.cell? ⟨kb,0,none⟩ = some (.int .i64 (k : Int)) ∧ w'.cell? ⟨cb,0,none⟩ = some (.slice (some ⟨g,0,none⟩) n c) ∧ w'.cell? ⟨g,k * 5,none⟩ = some (.int .i64 x.t) ∧ w'.cell? ⟨g,k * 5 + 1,none⟩ = some (.int .i64 x.o) ∧ w'.cell? ⟨g,k * 5 + 2,none⟩ = some (.int .i64 x.f) ∧ w'.cell? ⟨g,k * 5 + 3,none⟩ = some (.int .i64 x.a) ∧ w'.cell? ⟨g,k * 5 + 4,none⟩ = some (.int .i64 x.r) ∧ w'.cell? ⟨g,j * 5,none⟩ = some (.int .i64 y.t) ∧ w'.cell? ⟨g,j * 5 + 1,none⟩ = some (.int .i64 y.o) ∧ w'.cell? ⟨g,j * 5 + 2,none⟩ = some (.int .i64 y.f) ∧ w'.cell? ⟨g,j * 5 + 3,none⟩ = some (.int .i64 y.a) ∧ w'.cell? ⟨g,j * 5 + 4,none⟩ = some (.int .i64 y.r)) (go_keep) (first | (go_at_call 72; refine (BF.out w.drew ((Yd1 No w).drew)).mono ?_; rintro e w5 ⟨rfl,h5⟩; have H5 := Ydy h5; have k0 := Zd hk h5 (fun h => h); have k1 := Zd hc h5 (fun h => h); have r0 := Zd q0 h5 (fun h => h); have r1 := Zd q1 h5 (fun h => h); have r2 := Zd q2 h5 (fun h => h); have r3 := Zd q3 h5 (fun h => h); have r4 := Zd q4 h5 (fun h => h); have s0 := Zd p0 h5 (fun h => h); have s1 := Zd p1 h5 (fun h => h); have s2 := Zd p2 h5 (fun h => h); have s3 := Zd p3 h5 (fun h => h); have s4 := Zd p4 h5 (fun h => h); clear h5))
 go_wp2
 go_ret
 exact ⟨rfl,H5.out⟩
def Zc5 (l : List Nat) : List Value := l.map fun (i : Nat) => .int .i64 (i : Int)
theorem Zez {l : List Nat} (h : Yy w a (Zc5 l)) {m : Nat} (hr : l[k]? = some m) : ∃ g,a = some ⟨g,0,none⟩ ∧ w.cell? ⟨g,k,none⟩ = some (.int .i64 (m : Int)) :=
 h k _ (by unfold Zc5; rw [List.getElem?_map,hr]; rfl)
theorem Zns (cs : List Qq) (k : Nat) (js : List Nat) (hcs : Yy w a (Yc cs)) (hjs : Yy w a2 (Zc5 js)) (hk : w.cell? ⟨kb,0,none⟩ = some (.int .i64 (k : Int))) (hc : w.cell? ⟨cb,0,none⟩ = some (.slice a cs.length c)) (hkl : k < cs.length) (hj : ∀ j ∈ js,j < cs.length ∧ Zlf cs k j = false) (hlen : js.length ≤ 1000) :
  Calls Ydz 118 #[.slice a2 js.length c2,.func (.func 71) #[] #[Pt kb,Pt cb]] w fun e w' => e = .returned (.int .i64 (-1)) ∧ Zb No w w' := by
 have HJS := Ydy hjs
 have HB : Hid (∀ j ∈ js,∀ W,Zb No w W → Calls Ydz 71 #[.int .i64 (j : Int),Pt kb,Pt cb] W fun e w' => e = .returned (.bool false) ∧ Zb No w w') := Ydy (fun j hm W hW => (Zx4 cs k j (hcs.no hW) (Zd hk hW (fun h => h)) (Zd hc hW (fun h => h)) hkl (hj j hm).1 (hj j hm).2).mono fun e w' q => ⟨q.1,hW.trans q.2⟩)
 clear hcs hjs hk hc hkl hj
 generalize hn : js.length = n at *
 have HN := Ydy hn
 clear hn
 go_enter Tryz.func118,Tryz.ntmps118
 go_wp2
 go_loopw [8] (fun i wr => ∃ k : Nat,k ≤ n ∧ i = .int .i64 (k : Int) ∧ Zb No w wr) (fun i _ => n - (intOf i).toNat)
 case atStart => exact ⟨0,Yed _,rfl,Yd1 No w⟩
 case round =>
  obtain ⟨i,hi,rfl,hO⟩ := hrel
  by_cases hlt : i < n
  ·have hkb : decide ((i : Int) < (n : Int)) = true := decide_eq_true (by omega)
   have hk0 : (0 : Int) ≤ (i : Int) := by omega
   have hk1 : (i : Int) < (n : Int) := by omega
   have hkl : i < js.length := by have := HN.out; omega
   obtain ⟨j,hr⟩ : ∃ j,js[i]? = some j := ⟨_,Yd0 hkl⟩
   obtain ⟨g,hga,q0⟩ := Zez HJS.out hr
   subst hga
   replace q0 := Zd q0 hO (fun h => h)
   have HB1 := Ydy (HB.out j (Yef hr) wr hO)
   clear hkl hr hO
   go_wp2_with (go_at_call 71; refine (HB1.out).mono ?_; rintro e w5 ⟨rfl,h5⟩; have H5 := Ydy h5; clear h5)
   go_roundw
   case rel => exact ⟨i + 1,by omega,by go_num,H5.out⟩
   case measure => simp [intOf]; omega
  ·have hkn : i = n := by omega
   subst hkn
   have HO := Ydy hO
   clear hO
   go_wp2
   go_ret
   exact ⟨rfl,HO.out⟩
theorem Zhs (cs : List Qq) (k : Nat) (js : List Nat) (hcs : Yy w a (Yc cs)) (hjs : Yy w a2 (Zc5 js)) (hk : w.cell? ⟨kb,0,none⟩ = some (.int .i64 (k : Int))) (hc : w.cell? ⟨cb,0,none⟩ = some (.slice a cs.length c)) (hkl : k < cs.length) (hj : ∀ j ∈ js,j < cs.length ∧ Zlf cs k j = false) (hlen : js.length ≤ 1000) :
  Calls Ydz 73 #[.slice a2 js.length c2,.func (.func 71) #[] #[Pt kb,Pt cb]] w fun e w' => e = .returned (.bool false) ∧ Zb No w w' := by
 have HI := Ydy (Zns (c2:=c2) cs k js hcs hjs hk hc hkl hj hlen)
 clear hcs hjs hk hc hkl hj hlen
 go_enter Tryz.func73,Tryz.ntmps73
 go_wp2_with (go_at_call 118; refine (HI.out).mono ?_; rintro e w1 ⟨rfl,h1⟩; have H1 := Ydy h1; clear h1)
 go_ret
 exact ⟨rfl,H1.out⟩
def Zs3 (cs : List Qq) (os : List Nat) : Prop := ∀ (i k : Nat),os[i]? = some k → k < cs.length ∧ ∀ j ∈ os.take i,j < cs.length ∧ Zlf cs k j = false
theorem Zj1 (cs : List Qq) (os : List Nat) (hcs : Yy w a (Yc cs)) (hos : Yy w a2 (Zc5 os)) (hR : Zs3 cs os) (hlen : os.length ≤ 1000) :
  Calls Ydz 44 #[.slice a cs.length c,.slice a2 os.length c2] w fun e w' => e = .returned (.bool true) ∧ Zb No w w' := by
 have HOS := Ydy (hos.no ((Yd1 No w).alloc (.cells #[.slice a cs.length c] 101)))
 have HCS := Ydy (hcs.no ((Yd1 No w).alloc (.cells #[.slice a cs.length c] 101)))
 have HR := Ydy hR
 have hmf : ∀ (fn : Fn) (first cap : Array Value) (w : World),(Instr.makeFunc fn first cap).run Ydz w = .ok (.func fn first cap) w := fun _ _ _ _ => rfl
 have HW : Hid (Zb No w (w.alloc (.cells #[.slice a cs.length c] 101))) := Ydy ((Yd1 No w).alloc _)
 have HB : Hid ((w.alloc (.cells #[.slice a cs.length c] 101)).cell? ⟨w.heap.size,0,none⟩ = some (.slice a cs.length c)) := Ydy (Za (Zh w (.cells #[.slice a cs.length c] 101)) rfl)
 clear hcs hos hR
 go_enter Tryz.func44,Tryz.ntmps44
 go_wp2
 generalize w.heap.size = cb at *
 generalize w.alloc (.cells #[.slice a cs.length c] 101) = w0 at *
 have H0 : Hid (Yd (fun _ => 19) w0 14 3 1 0 (Zc5 (os.take 0)) (.slice none 0 0) w0) := Ydy (Yd.nil _ _ _ _ _ (Yd1 _ _))
 generalize hn : os.length = n at *
 have HN := Ydy hn
 clear hn
 go_loopw [5,11] (fun v i wr => ∃ k : Nat,k ≤ n ∧ i = .int .i64 (k : Int) ∧ Yd (fun _ => 19) w0 14 3 1 k (Zc5 (os.take k)) v wr) (fun _ i _ => n - (intOf i).toNat)
 case atStart => exact ⟨0,Yed _,rfl,H0.out⟩
 case round =>
  obtain ⟨i,hi,rfl,hG⟩ := hrel
  by_cases hlt : i < n
  ·have hkb : decide ((i : Int) < (n : Int)) = true := decide_eq_true (by omega)
   have hk0 : (0 : Int) ≤ (i : Int) := by omega
   have hk1 : (i : Int) < (n : Int) := by omega
   have hkl : i < os.length := by have := HN.out; omega
   obtain ⟨m,hr⟩ : ∃ m,os[i]? = some m := ⟨_,Yd0 hkl⟩
   have hO := hG.only
   obtain ⟨g,hga,q0⟩ := Zez HOS.out hr
   subst hga
   replace q0 := Zd q0 hO (fun h => h)
   have qb := Zd HB.out hO (fun h => h)
   have hbl : cb < wr.heap.size := Yd2 wr _ qb
   have hbn : cb ≠ wr.heap.size := Yd3 hbl
   have hgn : g ≠ wr.heap.size := Yd3 (Yd2 wr _ q0)
   obtain ⟨hml,hmj⟩ := HR.out i m hr
   obtain ⟨a5,c5,hv5,hs5⟩ := hG.src
   subst hv5
   have htl : (os.take i).length = i := by rw [Yej]; omega
   have hO1 : Zb No wr (wr.alloc (.cells #[.int .i64 (m : Int)] 3)) := (Yd1 No wr).alloc _
   have CT := Ydy (Zhs (c2:=c5) cs m (os.take i) (HCS.out.no (hO.trans hO1)) (hs5.no hO1) (Za (Zh wr (.cells #[.int .i64 (m : Int)] 3)) rfl) (Zd qb hO1 (fun h => h)) hml hmj (by omega))
   rw [htl] at CT
   have em : ((m : Int) == -1) = false := beq_eq_false_iff_ne.2 (by omega)
   have em0 : decide ((m : Int) < 0) = false := decide_eq_false (by omega)
   have em1 : decide (cs.length ≤ m) = false := decide_eq_false (by omega)
   have E : Hid (Zc5 (os.take (i + 1)) = Zc5 (os.take i) ++ [.int .i64 (m : Int)]) := Ydy (by unfold Zc5; rw [Yd6,hr]; simp)
   obtain ⟨own',hA,hB⟩ := hG.app
   have HA := Ydy hA
   have HB2 := Ydy hB
   have hOO := hO1
   have hkc : (wr.alloc (.cells #[.int .i64 (m : Int)] 3)).cell? ⟨wr.heap.size,0,none⟩ = some (.int .i64 (m : Int)) := Za (Zh wr _) rfl
   clear hkl hr hO hG hml hmj hs5 htl hA hB hO1
   generalize cs.length = nc at *
   go_wp2_with (first | (go_at_call 73; refine (CT.out).mono ?_; rintro e w5 ⟨rfl,h5⟩; have H5 := Ydy (hOO.trans h5); have kk := Zd hkc h5 (fun h => h); clear h5) | (at_builtin; refine Xx (by rfl) _ _ _ (by rfl) Zd1 (by rfl) (HA.out _ (H5.out.alloc _)) (B:=w5.heap.size) (c:=1) (cs:=#[.int .i64 (m : Int)]) (tb:=3) (fr:=(0,0)) (by rfl) (Zh _ _) (by rfl) (by simp [Value.oneCell']) (by omega) ?_; intro g4 cap4 w4 r4 hg4 hor hsz; have R4 := Ydy (HB2.out _ _ _ _ _ (H5.out.alloc _) r4 hg4 hor); clear r4 hg4 hor hsz))
   go_roundw
   case rel =>
    refine ⟨i + 1,by omega,by go_num,?_⟩
    rw [E.out]
    exact R4.out
   case measure => simp [intOf]; omega
  ·have hkn : i = n := by omega
   subst hkn
   have HO := Ydy (HW.out.trans hG.only)
   clear hG
   go_wp2
   go_ret
   exact ⟨rfl,HO.out⟩
end
end Go.Proofs.YtdkhbegheognnaaGreatDoor.W

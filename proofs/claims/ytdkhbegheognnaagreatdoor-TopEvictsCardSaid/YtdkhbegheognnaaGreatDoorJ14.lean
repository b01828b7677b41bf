/- Part of the proof of TopEvicts, joined by a program of the session: Mbd Mbe Mbf Md Me. -/
import Derived.Test.YtdkhbegheognnaaGreatDoorJ13
import Derived.Test.YtdkhbegheognnaaGreatDoorJ12
import Derived.Test.YtdkhbegheognnaaGreatDoorJ01
namespace Go.Proofs.YtdkhbegheognnaaGreatDoor.W
open Go.RowKit Go.Maps
open _root_.Go.Proofs.Tryz renaming prog → Ydz
open _root_.Go.World renaming block_lt_of_cell? → Yd0
open _root_.Nat renaming le_refl → Yd1, ne_of_lt → Yd8, ne_of_gt → Yek
open _root_.List renaming append_assoc → Yd2, mem_cons_self → Yd3, mem_singleton → Yd4, mem_cons_of_mem → Yd5, mem_append → Yd6, length_append → Yd7, length_singleton → Yd9, mem_append_left → Yeb, filter_append → Yec, getD_eq_getElem?_getD → Yed, getElem?_eq_getElem → Yee, length_cons → Yef, getElem?_eq_none → Yeg, mem_append_right → Yeh, drop_succ_cons → Yei, take_succ_cons → Yej, nodup_append → Yel
open Zb renaming refl → Yea
set_option maxHeartbeats 4000000
set_option maxRecDepth 100000
variable {own : Nat → Nat}
variable {w : World}
variable {L : ML}
variable {s s' : St}
variable {i k tx p g N : Nat}
variable {t t' : Th}
variable {R1 R2 R4 R3 : World → Prop}
variable {ps : List (List Op)}
theorem Zaa.row {v : Value} {l : List Int} (h : Row own 8 w 3 1 v l.length (Y1 l)) : Zaa own w v l := by
 rcases h.form with ⟨h1,h2,_⟩ | ⟨g,cap,h1,h2,h3,h4,_,_,h5⟩
 ·exact .inl ⟨h1,List.length_eq_zero_iff.1 h2⟩
 ·refine .inr ⟨g,0,cap,h1,h4,h2,h3,fun j z hz => ?_⟩
  rw [Nat.zero_add]
  exact h5 j _ (by unfold Y1; rw [List.getElem?_map,hz]; rfl)
def EvQ (own : Nat → Nat) (w : World) (L : ML) (s : St) (e : Ev) (v : Value) (w' : World) : Prop := ∃ own' L',MBs own w w' L (Yj s e) 0 0 own' L' ∧ Zaa own' w' v (s.pol.step e).2 ∧ Zb (fun b => own b ≠ 7) w w'
theorem Zh6 (h : MAt own w L s) (ht : s.ths[i]? = some t) (hn : s.evs.length ≤ 1000000) (ok : Zc7 s.pol) (hc : s.pol.rw.count ≤ 300) (hk : s.pol.keys.length ≤ 1000) (e : Ev) (he : Zga s.pol e) :
  Calls Ydz 144 #[Pt (L.tx i),.agg #[.int .i64 e.d,.int .i64 e.n,.int .i64 e.k,.int .i64 e.w]] w fun r w' => ∃ v,r = .returned v ∧ EvQ own w L s e v w' := by
 have T := h.ths i t ht
 have ox := T.ox
 have op := h.op
 refine Zna own L.p (L.tx i) L.px s.evs.length _ _ _ _ _ _ _ _ _ e w (EvQ own w L s e) h.parts (Za T.block rfl) (by omega) (by omega) (fun ee => by rw [ee] at ox; omega) h.evs hn (Ydy fun W q => ?_)
 obtain ⟨own1,v1,e1,r1,b1,o1⟩ := q
 have hf : Qu (s.evs ++ [e]) = Qu s.evs ++ evF e := by simp [Qu,evF]
 have m : MAt own1 W { L with evv := v1 } { s with evs := s.evs ++ [e] } := by
  refine h.own (L':={ L with evv := v1 }) (s':={ s with evs := s.evs ++ [e] }) e1 o1 (fun b hb hs => ?_) rfl rfl b1 ?_ ?_ ?_
  ·rcases hs with rfl | hs
   ·exact .inl op
   ·exact .inr (.inr (.inr hs))
  ·refine h.keys.kept o1 (fun hs => ?_)
   have := h.okm
   rcases hs with hs | hs
   ·rw [hs] at this; omega
   ·omega
  ·exact h.recs.kept e1 o1 (fun b hb hl hs => by rcases hs with rfl | hs <;> omega)
  ·show Row own1 6 W 93 4 v1 (s.evs ++ [e]).length (Qu (s.evs ++ [e]))
   rw [hf,Yd7]
   exact r1
 have q0 : MBs own w W L { s with evs := s.evs ++ [e] } 0 0 own1 { L with evv := v1 } := ⟨e1,m,o1.mono (fun b _ hs => by show own b ≠ 19; rcases hs with rfl | hs <;> omega),rfl,rfl,by simp,by simp⟩
 refine (Zt1 m.pol ok hc hk he).mono fun r w' z => ?_
 obtain ⟨v,k,own2,z1,z2,z3,z4,z5,z6⟩ := z
 refine ⟨v,k,z1,own2,_,q0.go (k':=0) (m':=0) z2 (m.policy z2 z4 z3) z4 (fun b _ hs => .inl (by have e' : 20 ≤ own1 b ∧ own1 b < 40 := hs; omega)) rfl rfl (by simp) (by simp),Zaa.row z5,(o1.mono (fun b _ hs => by rcases hs with rfl | hs <;> omega)).then z4 (fun b hb hs => by have e' : 20 ≤ own1 b ∧ own1 b < 40 := hs; have := e1 b hb; show own b ≠ 7; omega)⟩
theorem MBs.keys {own1 : Nat → Nat} {W w1 : World} {L1 : ML} {m : Nat} (q : MBs own w W L s k m own1 L1) {ks : List (Int × Int)} (hm : Zs w1 L1.km (kf ks) ks.length) (ht : W.mapTurned w1 L1.km) : MBs own w w1 L { s with keys := ks } k m own1 L1 := by
 have ho : Zb (fun b => b = L1.km) W w1 := (Yea (fun b => b = L1.km) W).turned ht (.inl rfl)
 have o4 := q.mat.okm
 have op := q.mat.op
 have far : ∀ b,own1 b ≠ 4 → ¬ b = L1.km := fun b hb e => by rw [e] at hb; exact hb o4
 refine q.go (k':=0) (m':=0) (Ext.refl _ _) (q.mat.own (L':=L1) (s':={ s with keys := ks }) (Ext.refl _ _) ho (fun b _ e => .inr (.inl (by have e' : b = L1.km := e; rw [e']; exact o4))) rfl rfl (ho.kept q.mat.parts (far _ (by omega))) hm (q.mat.recs.kept (Ext.refl _ _) ho (fun b _ hl => far b (by omega))) (q.mat.evs.kept (Ext.refl _ _) ho (fun b _ hl => far b (by omega)))) ho (fun b _ e => .inl (by have e' : b = L1.km := e; rw [e']; omega)) rfl rfl (by omega) (by omega)
theorem Zws (h : MAt own w L s) (ht : s.ths[i]? = some t) (ok : Zge s.sh) (o : Op) (hw0 : 0 ≤ o.w) (hw1 : o.w ≤ 2147483648) (hr : 0 < s.wr.res) (hn : L.wn < 100000) (hks : Yo s.keys) (hkl : s.keys.length < 1000000) :
  Calls Ydz 137 #[Pt (L.tx i),opA o] w fun en w' => en = .returned (.tuple #[]) ∧ MQ own w w' L (match Zk s.sh.ent o.k with
   | some e => { s with sh := s.sh.put o,wr := { s.wr with res := s.wr.res - 1,q := s.wr.q ++ [⟨3,e.n,o.k,o.w⟩] } }
   | none => { s with sh := s.sh.put o,keys := Yn s.keys ((s.sh.given : Int) + 1) o.k,wr := { s.wr with res := s.wr.res - 1,q := s.wr.q ++ [⟨1,(s.sh.given : Int) + 1,o.k,o.w⟩] } }) 0 1 := by
 have T := h.ths i t ht
 have hg := ok.gv
 generalize he : (Zk s.sh.ent o.k).getD ⟨o.k,o.v,o.w,(s.sh.given : Int) + 1⟩ = e
 refine Zsi (ex:=L.ex) (wx:=L.wx) (km:=L.km) (Rc:=ShC own w L s (s.sh.put o)) (R1:=ShB own w L s (s.sh.put o) o e) o e (Zk s.sh.ent o.k).isSome (Za T.block rfl) (Za h.parts rfl) (Ydy fun W hW => ?_) (Ydy fun W w1 w2 n1 _ hR ho hb1 hb2 hlt hor hwW => ?_) (Ydy fun nb w2 q => ?_) (Ydy fun nb w2 W hb q hs => ?_) (Ydy fun nb w2 W hb q hs => ?_)
 ·have q := h.old hW
  refine (Yc3 q.mat.sh ok o hw0 hw1).mono fun _ w1 z => ?_
  obtain ⟨z1,own2,el,z2,z3,z4,z5⟩ := z
  rw [he] at z1
  exact ⟨z1,ShC.of q z2 z3 z5,Zd7 q ht (Bx.new _ _ _) z5 (fun _ e => Zj8 e)⟩
 ·exact ShC.box hR ho hb1 hb2 hlt hor hwW
 ·obtain ⟨own2,el,q,_,q4,q5⟩ := q
  exact ⟨q4,q5⟩
 ·obtain ⟨own2,el,q,_,q4,q5⟩ := q
  cases hg : Zk s.sh.ent o.k with
  | none => rw [hg] at hb; cases hb
  | some e0 =>
   rw [hg] at he
   have he : e0 = e := he
   subst he
   have z := (q.no ((Yea No w2).alloc (.cells #[.int .i64 3,.int .i64 e0.n,.int .i64 o.k,.int .i64 o.w] 93)) (fun _ _ h => (h : False).elim)).sm hs
   obtain ⟨d1,d2⟩ := z.cells ht
   refine ⟨Za d1 rfl,Za d2 rfl,(Zhm z.mat.wr hr hn ⟨3,e0.n,o.k,o.w⟩).mono fun _ _ r => ?_⟩
   obtain ⟨own3,r1,r2,r3,r4⟩ := r
   exact ⟨r1,(z.writes (m':=1) r2 r3 r4 (by simp)).mq⟩
 ·obtain ⟨own2,el,q,_,q4,q5⟩ := q
  cases hg : Zk s.sh.ent o.k with
  | some e0 => rw [hg] at hb; cases hb
  | none =>
   rw [hg] at he
   have he : (⟨o.k,o.v,o.w,(s.sh.given : Int) + 1⟩ : Ent) = e := he
   subst he
   have ho1 : Zb No w2 (w2.alloc (.cells #[.int .i64 1,.int .i64 ((s.sh.given : Int) + 1),.int .i64 o.k,.int .i64 o.w] 93)) := (Yea No w2).alloc _
   have z := (q.no ho1 (fun _ _ h => (h : False).elim)).sm hs
   obtain ⟨d1,d2⟩ := z.cells ht
   have hev := hs.block (Zh w2 (.cells #[.int .i64 1,.int .i64 ((s.sh.given : Int) + 1),.int .i64 o.k,.int .i64 o.w] 93))
   have hkm : ({ L with el := el } : ML).km < w2.heap.size := q.mat.keys.lt
   refine ⟨Za d1 rfl,Za d2 rfl,Za d2 rfl,(show I64 ((s.sh.given : Int) + 1) from ⟨by omega,by omega⟩),kf s.keys,s.keys.length,z.mat.keys,hkl,fun W4 hm htt W' hs' => ?_⟩
   have hlen := Xk hks ((s.sh.given : Int) + 1) o.k
   have hm' : Zs W4 ({ L with el := el } : ML).km (kf (Yn s.keys ((s.sh.given : Int) + 1) o.k)) (Yn s.keys ((s.sh.given : Int) + 1) o.k).length := by
    rw [hlen]
    rw [Kw] at hm
    exact hm.eq (fun i _ => Zgw _ _ _ i)
   have z2 := (z.keys hm' htt).sm hs'
   obtain ⟨f1,f2⟩ := z2.cells ht
   have hne : w2.heap.size ≠ L.km := fun e => by rw [← e] at hkm; exact Nat.lt_irrefl _ hkm
   refine ⟨Za f1 rfl,Za f2 rfl,hs'.block ((Yq htt hne).trans hev),(Zhm z2.mat.wr hr hn ⟨1,(s.sh.given : Int) + 1,o.k,o.w⟩).mono fun _ _ r => ?_⟩
   obtain ⟨own3,r1,r2,r3,r4⟩ := r
   exact ⟨r1,(z2.writes (m':=1) r2 r3 r4 (by simp)).mq⟩
section
attribute [local go_sem] World.setCell_drew Zg Zf
theorem Zoe {ex km off n cap : Nat} {v key k : Int} (c0 : w.cell? ⟨tx,0,none⟩ = some (Pt p)) (p1 : w.cell? ⟨p,1,none⟩ = some (Pt ex)) (p6 : w.cell? ⟨p,6,none⟩ = some (.map (some km))) (c12 : w.cell? ⟨tx,12,none⟩ = some (.slice (some ⟨g,off,none⟩) n cap)) (hn : 0 < n) (cv : w.cell? ⟨g,off,none⟩ = some (.int .i64 v))
  (L : Hid (∀ W,Sm w W → (Instr.lookup 60 (.map (some km)) (.int .i64 v) false).run Ydz W = .ok (.int .i64 key) W))
  (HC : Hid (∀ W,Sm w W → Calls Ydz 89 #[Pt ex,.int .i64 key] W fun e w' => e = .returned (.int .i64 k) ∧ Sm w w')) :
  Calls Ydz 146 #[Pt tx] w fun e w' => e = .returned (.int .i64 k) ∧ Sm w w' := by
 have hn1 : (0 : Int) < (n : Int) := by omega
 go_enter Tryz.func146,Tryz.ntmps146
 go_wp2
 refine Z4 21 (by kernel_rfl) (by kernel_rfl) ?_
 intro W hcW hfW hsW HW
 have hsm : Sm w W := by rw [← HW.out]; exact ⟨rfl,rfl,rfl,rfl⟩
 have L1 := L.out W hsm
 have C1 := Ydy (HC.out W hsm)
 clear L HC hsm
 simp only [Yej,List.take_zero,Yei,List.drop_zero]
 iterate 21 still_step
 refine wpStill_nil ?_
 go_wp2_with fail
 refine (C1.out).mono ?_
 rintro e w4 ⟨rfl,hq⟩
 go_wp2
 go_ret
 exact ⟨rfl,hq⟩
theorem Zon {wx : Nat} (c0 : w.cell? ⟨tx,0,none⟩ = some (Pt p)) (p4 : w.cell? ⟨p,4,none⟩ = some (Pt wx))
  (HT : Hid (Calls Ydz 186 #[Pt wx] w fun r w' => r = .returned (.tuple #[.agg #[.int .i64 0,.int .i64 0,.int .i64 0,.int .i64 0],.bool false]) ∧ R1 w'))
  (HG : Hid (∀ w1 W,R1 w1 → Zb No w1 W → Calls Ydz 86 #[Pt tx,.int .i64 15] W fun e w' => e = .returned (.bool true) ∧ R2 w')) :
  Calls Ydz 145 #[Pt tx] w fun e w' => e = .returned (.bool true) ∧ R2 w' := by
 go_enter Tryz.func145,Tryz.ntmps145
 go_wp2_with fail
 refine (HT.out).mono ?_
 rintro e w1 ⟨rfl,h1⟩
 have C1 := Ydy (HG.out w1 (w1.alloc (.cells #[.int .i64 0,.int .i64 0,.int .i64 0,.int .i64 0] 93)) h1 ((Yea No w1).alloc _))
 clear HG HT
 go_wp2_with fail
 refine (C1.out).mono ?_
 rintro e w4 ⟨rfl,hq⟩
 go_wp2
 go_ret
 exact ⟨rfl,hq⟩
theorem Zoo {wx : Nat} (ev : Ev) {R5 : World → Prop} {R2 : Value → Nat → World → Prop} (c0 : w.cell? ⟨tx,0,none⟩ = some (Pt p)) (p4 : w.cell? ⟨p,4,none⟩ = some (Pt wx))
  (HT : Hid (Calls Ydz 186 #[Pt wx] w fun r w' => r = .returned (.tuple #[.agg #[.int .i64 ev.d,.int .i64 ev.n,.int .i64 ev.k,.int .i64 ev.w],.bool true]) ∧ R1 w'))
  (HE : Hid (∀ w1,R1 w1 → Calls Ydz 144 #[Pt tx,.agg #[.int .i64 ev.d,.int .i64 ev.n,.int .i64 ev.k,.int .i64 ev.w]] (w1.alloc (.cells #[.int .i64 ev.d,.int .i64 ev.n,.int .i64 ev.k,.int .i64 ev.w] 93)) fun r w' => ∃ a n c,r = .returned (.slice a n c) ∧ R2 (.slice a n c) w1.heap.size w'))
  (H2 : Hid (∀ v nb w2,R2 v nb w2 → (∃ x,w2.cell? ⟨tx,12,none⟩ = some x) ∧ w2.frozen? ⟨tx,12,none⟩ = false ∧ ∀ W,Sm (w2.setCell ⟨tx,12,none⟩ v) W → ∃ ex,W.cell? ⟨tx,0,none⟩ = some (Pt p) ∧ W.cell? ⟨p,1,none⟩ = some (Pt ex) ∧ W.cell? ⟨nb,0,none⟩ = some (.int .i64 ev.d) ∧ W.cell? ⟨nb,1,none⟩ = some (.int .i64 ev.n) ∧ (ev.d = 4 → Calls Ydz 187 #[Pt ex,.int .i64 ev.n] W fun r w' => (∃ n,r = .returned (.int .i64 n)) ∧ R4 w') ∧ (ev.d ≠ 4 → R4 W)))
  (HN : Hid (∀ W,R4 W → Calls Ydz 148 #[Pt tx] W fun e w' => e = .returned (.bool true) ∧ R5 w')) :
  Calls Ydz 145 #[Pt tx] w fun e w' => e = .returned (.bool true) ∧ R5 w' := by
 go_enter Tryz.func145,Tryz.ntmps145
 go_wp2_with fail
 refine (HT.out).mono ?_
 rintro e w1 ⟨rfl,h1⟩
 have C1 := Ydy (HE.out w1 h1)
 clear HE HT
 go_wp2_with fail
 refine (C1.out).mono ?_
 rintro e w2 ⟨va,vn,vc,rfl,h2⟩
 obtain ⟨⟨x,cx⟩,fx,H3⟩ := H2.out _ _ w2 h2
 have H3' := Ydy H3
 clear H2 C1 H3
 generalize w1.heap.size = nb at *
 obtain ⟨ex0,k0,k1,k2,k3,-,H4⟩ := H3'.out _ (Sm.refl _)
 have H4' := Ydy H4
 clear H4
 by_cases hd : ev.d = 4
 ·have hb : (ev.d == 4) = true := by simpa using hd
  go_wp2
  refine Z4 9 (by kernel_rfl) (by kernel_rfl) ?_
  intro W hcW hfW hsW HW
  obtain ⟨ex,q0,q1,q2,q3,HB,-⟩ := H3'.out W (by rw [← HW.out]; exact ⟨rfl,rfl,rfl,rfl⟩)
  have HB' := Ydy (HB hd)
  clear HB H3' hcW hfW hsW HW k0 k1 k2 k3
  simp only [Yej,List.take_zero,Yei,List.drop_zero]
  iterate 9 still_step
  refine wpStill_nil ?_
  go_wp2_with fail
  refine (HB'.out).mono ?_
  rintro e w4 ⟨⟨n,rfl⟩,h4⟩
  go_wp2_with fail
  refine (HN.out _ h4).mono ?_
  rintro e w5 ⟨rfl,h5⟩
  go_wp2
  go_ret
  exact ⟨rfl,h5⟩
 ·have hb : (ev.d == 4) = false := by simpa using hd
  have h5 := Ydy (HN.out _ (H4'.out hd))
  clear H4' H3' HN
  go_wp2_with fail
  refine (h5.out).mono ?_
  rintro e w5 ⟨rfl,h6⟩
  go_wp2
  go_ret
  exact ⟨rfl,h6⟩
theorem Zcc (w : World) (o : Obj) : w.heap.size < (w.drew.alloc o).heap.size := Ze (Zh w.drew o)
theorem Znb {ex off n cap : Nat} {v : Int} (e : Ent) (b : Bool) (c0 : w.cell? ⟨tx,0,none⟩ = some (Pt p)) (p1 : w.cell? ⟨p,1,none⟩ = some (Pt ex)) (c12 : w.cell? ⟨tx,12,none⟩ = some (.slice (some ⟨g,off,none⟩) n cap)) (hn : 0 < n) (cv : w.cell? ⟨g,off,none⟩ = some (.int .i64 v)) {Rc : World → World → Prop} {R1 : Nat → World → Prop} 
  (HG : Hid (∀ W,Zb No w W → Calls Ydz 188 #[Pt ex,.int .i64 v] W fun en w' => en = .returned (.tuple #[Yg e,.bool b]) ∧ Rc W w' ∧ Zdt w W w' tx p (Pt ex) ∧ w'.cell? ⟨tx,12,none⟩ = some (.slice (some ⟨g,off,none⟩) n cap) ∧ w'.cell? ⟨g,off,none⟩ = some (.int .i64 v) ∧ w.heap.size ≤ w'.heap.size))
  (HK : Hid (∀ W w1 w2 n1,Zb No w W → Rc W w1 → Zb (Zp6 w W) w1 w2 → w2.heap[n1]? = some (Z0 e) → (n1 < W.heap.size ∨ w1.heap.size ≤ n1) → w.heap.size ≤ n1 → R1 n1 w2))
  (H1 : Hid (∀ nb w2,R1 nb w2 → w2.heap[nb]? = some (Z0 e) ∧ (b = true → Calls Ydz 127 #[Pt tx,.int .i64 (-1),.int .i64 2,.agg #[.int .i64 4,.int .i64 e.k,.int .i64 e.v,.bool true],.int .i64 0] w2 fun en w' => en = .returned (.tuple #[]) ∧ R2 w') ∧ (b = false → R2 w2)))
  (H2 : Hid (∀ w2,R2 w2 → Calls Ydz 86 #[Pt tx,.int .i64 14] w2 fun en w' => en = .returned (.bool true) ∧ R3 w')) :
  Calls Ydz 147 #[Pt tx] w fun r w' => r = .returned (.bool true) ∧ R3 w' := by
 unfold Yg at HG
 unfold Zdt at HG
 have hn1 : (0 : Int) < (n : Int) := by omega
 go_enter Tryz.func147,Tryz.ntmps147
 go_wp2
 have htx : tx < w.heap.size := Yd0 w _ c0
 have hpx : p < w.heap.size := Yd0 w _ p1
 have hgx : g < w.heap.size := Yd0 w _ cv
 have hxt : tx ≠ w.heap.size := Yd8 htx
 have hxt2 : w.heap.size ≠ tx := Yek htx
 have hxp : p ≠ w.heap.size := Yd8 hpx
 have hxp2 : w.heap.size ≠ p := Yek hpx
 have hxg : g ≠ w.heap.size := Yd8 hgx
 have hxg2 : w.heap.size ≠ g := Yek hgx
 go_region_held3 (fun w' => w'.cell? ⟨tx,0,none⟩ = some (Pt p) ∧ w'.cell? ⟨p,1,none⟩ = some (Pt ex) ∧ w'.cell? ⟨tx,12,none⟩ = some (.slice (some ⟨g,off,none⟩) n cap) ∧ w'.cell? ⟨g,off,none⟩ = some (.int .i64 v)) (go_keep) (first | (go_at_call 188; refine (HG.out _ (by (repeat (first | exact Yea _ _ | refine Zb.drew ?_ | refine Zb.alloc ?_ _)))).mono ?_; rintro en w1 ⟨rfl,h1,⟨k0,k1,h2⟩,k12,kv,hsz⟩; have n1 : tx ≠ w1.heap.size := Yd8 (Yd0 w1 _ k0); have n2 : w1.heap.size ≠ tx := Ne.symm n1; have n3 : p ≠ w1.heap.size := Yd8 (Yd0 w1 _ k1); have n4 : w1.heap.size ≠ p := Ne.symm n3; have n7 : g ≠ w1.heap.size := Yd8 (Yd0 w1 _ kv); have n8 : w1.heap.size ≠ g := Ne.symm n7; (try (have hq := h2 w.heap.size (.cells #[.int .i64 0,.int .i64 0,.int .i64 0,.int .i64 0] 115) (Yd1 _) (Zh w.drew _); have hq' := Ydy hq; obtain ⟨y0,y1,y2,y3,g0,g1,g2,g3⟩ := Yh hq; clear hq)); have h1' := Ydy h1; clear h1 h2))
 have HR := Ydy (HK.out _ w1 (w1.alloc (Z0 e)) w1.heap.size (by (repeat (first | exact Yea _ _ | refine Zb.drew ?_ | refine Zb.alloc ?_ _))) h1'.out ((Yea _ w1).alloc _) (Zh w1 _) (.inr (Yd1 _)) hsz)
 unfold Z0 at HR
 clear HK HG h1' k0 k1 p1 c0 n1 n2 n3 n4 n7 n8 hsz htx hpx hgx hxt hxt2 hxp hxp2 hxg hxg2 k12 kv c12 cv
 generalize w1.heap.size = nb at *
 generalize w1.alloc _ = w2 at *
 rotate_left
 have HR := Ydy (HK.out (w.drew.alloc (.cells #[.int .i64 0,.int .i64 0,.int .i64 0,.int .i64 0] 115)) w1 ((((w1.setCell ⟨w.heap.size,0,none⟩ (.int .i64 e.k)).setCell ⟨w.heap.size,1,none⟩ (.int .i64 e.v)).setCell ⟨w.heap.size,2,none⟩ (.int .i64 e.w)).setCell ⟨w.heap.size,3,none⟩ (.int .i64 e.n)) w.heap.size (by (repeat (first | exact Yea _ _ | refine Zb.drew ?_ | refine Zb.alloc ?_ _))) h1'.out ((((Yea _ w1).setCell (.inl ⟨Yd1 _,Zcc w _⟩) _).setCell (.inl ⟨Yd1 _,Zcc w _⟩) _).setCell (.inl ⟨Yd1 _,Zcc w _⟩) _ |>.setCell (.inl ⟨Yd1 _,Zcc w _⟩) _) (Zj (Zj (Zj (Zj hq'.out 0 _) 1 _) 2 _) 3 _) (.inl (Zcc w _)) (Yd1 _))
 clear HK HG h1' hq' y0 y1 y2 y3 g0 g1 g2 g3 k0 k1 p1 c0 n1 n2 n3 n4 n7 n8 hsz htx hpx hgx hxt hxt2 hxp hxp2 hxg hxg2 k12 kv c12 cv
 revert HR
 generalize ((((w1.setCell ⟨w.heap.size,0,none⟩ (.int .i64 e.k)).setCell ⟨w.heap.size,1,none⟩ (.int .i64 e.v)).setCell ⟨w.heap.size,2,none⟩ (.int .i64 e.w)).setCell ⟨w.heap.size,3,none⟩ (.int .i64 e.n)) = w2
 generalize w.heap.size = nb
 intro HR
 all_goals
  obtain ⟨hb,HA,HB⟩ := H1.out _ _ HR.out
  have HA' := Ydy HA
  have HB' := Ydy HB
  obtain ⟨z0,z1,z2,z3,-⟩ := Yh hb
  clear HR H1 hb HA HB
  cases b
  ·have H3 := Ydy (H2.out _ (HB'.out (by simp)))
   clear HA' HB' H2
   go_wp2_with fail
   refine H3.out.mono ?_
   rintro en w4 ⟨rfl,hq⟩
   go_wp2
   go_ret
   exact ⟨rfl,hq⟩
  ·have H3 := Ydy (HA'.out (by simp))
   clear HA' HB'
   go_wp2_with fail
   refine H3.out.mono ?_
   rintro en w4 ⟨rfl,hq⟩
   have H4 := Ydy (H2.out _ hq)
   clear H2 H3 hq
   go_wp2_with fail
   refine H4.out.mono ?_
   rintro en w5 ⟨rfl,hq⟩
   go_wp2
   go_ret
   exact ⟨rfl,hq⟩
theorem Zqr {n1 n2 : Nat} {s : Int} (hc : 0 < n1 ∨ 0 < n2 ∨ s = 3)
  (HS : Hid (Calls Ydz 95 #[Pt tx] w fun e w' => e = .returned (.int .i64 s) ∧ R1 w'))
  (H1 : Hid (∀ w1,R1 w1 → ∃ rx wx,w1.cell? ⟨tx,0,none⟩ = some (Pt p) ∧ w1.cell? ⟨p,3,none⟩ = some (Pt rx) ∧ w1.cell? ⟨p,4,none⟩ = some (Pt wx) ∧ (Calls Ydz 189 #[Pt rx] w1 fun e w' => e = .returned (.int .i64 (n1 : Int)) ∧ w1 = w') ∧ (Calls Ydz 130 #[Pt wx] w1 fun e w' => e = .returned (.int .i64 (n2 : Int)) ∧ w' = w1)))
  (HT : Hid (∀ w1,R1 w1 → Calls Ydz 93 #[Pt tx,.int .i64 2] w1 fun e w' => e = .returned (.tuple #[]) ∧ R2 w'))
  (HG : Hid (∀ w2,R2 w2 → Calls Ydz 86 #[Pt tx,.int .i64 10] w2 fun e w' => e = .returned (.bool true) ∧ R3 w')) :
  Calls Ydz 149 #[Pt tx] w fun e w' => e = .returned (.bool true) ∧ R3 w' := by
 go_enter Tryz.func149,Tryz.ntmps149
 go_wp2_with fail
 refine (HS.out).mono ?_
 rintro e w1 ⟨rfl,h1⟩
 obtain ⟨rx,wx,k0,k3,k4,A,B⟩ := H1.out w1 h1
 have A' := Ydy A
 have B' := Ydy B
 have T' := Ydy (HT.out w1 h1)
 clear A B HT H1 HS
 by_cases ha : 0 < n1
 ·have ha' : decide ((0 : Int) < (n1 : Int)) = true := by simp; omega
  go_wp2_with fail
  refine (A'.out).mono ?_
  rintro e w' ⟨rfl,rfl⟩
  go_wp2_with fail
  refine (Zcx s w1).mono ?_
  rintro e w' ⟨rfl,rfl⟩
  go_wp2_with fail
  refine (T'.out).mono ?_
  rintro e w2 ⟨rfl,h2⟩
  go_wp2_with fail
  refine (HG.out w2 h2).mono ?_
  rintro e w3 ⟨rfl,h3⟩
  go_wp2
  go_ret
  exact ⟨rfl,h3⟩
 ·have ha' : decide ((0 : Int) < (n1 : Int)) = false := by simp; omega
  by_cases hb : 0 < n2
  ·have hb' : decide ((0 : Int) < (n2 : Int)) = true := by simp; omega
   go_wp2_with fail
   refine (A'.out).mono ?_
   rintro e w' ⟨rfl,rfl⟩
   go_wp2_with fail
   refine (B'.out).mono ?_
   rintro e w' ⟨rfl,rfl⟩
   go_wp2_with fail
   refine (Zcx s w').mono ?_
   rintro e w2 ⟨rfl,rfl⟩
   go_wp2_with fail
   refine (T'.out).mono ?_
   rintro e w2 ⟨rfl,h2⟩
   go_wp2_with fail
   refine (HG.out w2 h2).mono ?_
   rintro e w3 ⟨rfl,h3⟩
   go_wp2
   go_ret
   exact ⟨rfl,h3⟩
  ·have hb' : decide ((0 : Int) < (n2 : Int)) = false := by simp; omega
   have hs : s = 3 := by omega
   subst hs
   go_wp2_with fail
   refine (A'.out).mono ?_
   rintro e w' ⟨rfl,rfl⟩
   go_wp2_with fail
   refine (B'.out).mono ?_
   rintro e w' ⟨rfl,rfl⟩
   go_wp2_with fail
   refine (Zcx 3 w').mono ?_
   rintro e w2 ⟨rfl,rfl⟩
   go_wp2_with fail
   refine (T'.out).mono ?_
   rintro e w2 ⟨rfl,h2⟩
   go_wp2_with fail
   refine (HG.out w2 h2).mono ?_
   rintro e w3 ⟨rfl,h3⟩
   go_wp2
   go_ret
   exact ⟨rfl,h3⟩
theorem Zt8 {s th n back : Int} (hs1 : s ≠ 1) (hs3 : s ≠ 3)
  (HS : Hid (Calls Ydz 95 #[Pt tx] w fun e w' => e = .returned (.int .i64 s) ∧ R1 w'))
  (H1 : Hid (∀ w1,R1 w1 → ∃ rx wx,w1.cell? ⟨tx,0,none⟩ = some (Pt p) ∧ w1.cell? ⟨p,3,none⟩ = some (Pt rx) ∧ w1.cell? ⟨p,4,none⟩ = some (Pt wx) ∧ (Calls Ydz 189 #[Pt rx] w1 fun e w' => e = .returned (.int .i64 0) ∧ w1 = w') ∧ (Calls Ydz 130 #[Pt wx] w1 fun e w' => e = .returned (.int .i64 0) ∧ w' = w1)))
  (HT : Hid (∀ w1,R1 w1 → Calls Ydz 93 #[Pt tx,.int .i64 0] w1 fun e w' => e = .returned (.tuple #[]) ∧ R2 w'))
  (H2 : Hid (∀ w2,R2 w2 → ∃ cx,w2.cell? ⟨tx,0,none⟩ = some (Pt p) ∧ w2.cell? ⟨tx,1,none⟩ = some (.int .i64 th) ∧ w2.cell? ⟨p,5,none⟩ = some (Pt cx) ∧ ∀ W,Sm w2 W → (Calls Ydz 96 #[Pt p] W fun e w' => e = .returned (.int .i64 n) ∧ W = w') ∧ (Calls Ydz 139 #[Pt cx,.int .i64 th,.int .i64 n] W fun e w' => e = .returned (.int .i64 0) ∧ R3 w' ∧ w'.cell? ⟨tx,0,none⟩ = some (Pt p) ∧ w'.cell? ⟨tx,1,none⟩ = some (.int .i64 th) ∧ w'.cell? ⟨p,5,none⟩ = some (Pt cx) ∧ w'.cell? ⟨tx,11,none⟩ = some (.int .i64 back))))
  (HG : Hid (∀ w2,R3 w2 → Calls Ydz 86 #[Pt tx,.int .i64 back] w2 fun e w' => e = .returned (.bool true) ∧ R4 w')) :
  Calls Ydz 149 #[Pt tx] w fun e w' => e = .returned (.bool true) ∧ R4 w' := by
 have b3 : (s == 3) = false := beq_eq_false_iff_ne.2 hs3
 have FI := Ydy (fun W => Zk4 s hs1 hs3 W)
 clear hs1 hs3
 go_enter Tryz.func149,Tryz.ntmps149
 go_wp2_with fail
 refine (HS.out).mono ?_
 rintro e w1 ⟨rfl,h1⟩
 obtain ⟨rx,wx,k0,k3,k4,A,B⟩ := H1.out w1 h1
 have A' := Ydy A
 have B' := Ydy B
 have T' := Ydy (HT.out w1 h1)
 clear A B HT H1 HS
 go_wp2_with fail
 refine (A'.out).mono ?_
 rintro e w' ⟨rfl,rfl⟩
 go_wp2_with fail
 refine (B'.out).mono ?_
 rintro e w' ⟨rfl,rfl⟩
 go_wp2_with fail
 refine (FI.out w').mono ?_
 rintro e w2 ⟨rfl,rfl⟩
 go_wp2_with fail
 refine (T'.out).mono ?_
 rintro e w2 ⟨rfl,h2⟩
 obtain ⟨cx,q0,q1,q5,C⟩ := H2.out w2 h2
 have C' := Ydy (C w2.drew ⟨rfl,rfl,rfl,rfl⟩)
 clear A' B' T' H2 C k0 k3 k4 h1 h2
 go_wp2
 go_region_held3 (fun w' => w'.cell? ⟨tx,0,none⟩ = some (Pt p) ∧ w'.cell? ⟨tx,1,none⟩ = some (.int .i64 th) ∧ w'.cell? ⟨p,5,none⟩ = some (Pt cx)) (go_keep) (first | (go_at_call 96; refine (C'.out.1).mono ?_; rintro e w' ⟨rfl,rfl⟩) | (go_at_call 139; refine (C'.out.2).mono ?_; rintro e w4 ⟨rfl,hq,j0,j1,j5,j11⟩))
 have G' := Ydy (HG.out _ hq)
 clear HG hq
 go_wp2_with fail
 refine (G'.out).mono ?_
 rintro e w3 ⟨rfl,h3⟩
 go_wp2
 go_ret
 exact ⟨rfl,h3⟩
end
theorem X7.go (h : X7 N ps s) (ht : s.ths[i]? = some t) (ph : Int) (ha : ThA s.cap s.sh.given { t with ph := ph }) (hp : Zu t → Zu { t with ph := ph }) : X7 N ps (Zl s i { t with ph := ph }) :=
 h.set ht rfl ha (Vj rfl rfl hp)
theorem Zi4 : ∀ {l : List Y8} {r : Y8},r ∈ (Y3 l).1 → ∃ r' ∈ l,∀ v ∈ r.q,v ∈ r'.q
 | [],r,h => by cases h
 | a :: l,r,h => by
  unfold Y3 at h
  cases hq : a.q with
  | nil =>
   simp only [hq] at h
   rcases List.mem_cons.1 h with e | e
   ·exact ⟨a,Yd3,fun v hv => by rw [e] at hv; exact hv⟩
   ·obtain ⟨r',h1,h2⟩ := Zi4 e
    exact ⟨r',Yd5 _ h1,h2⟩
  | cons v q =>
   simp only [hq] at h
   rcases List.mem_cons.1 h with e | e
   ·subst e
    exact ⟨a,Yd3,fun u hu => by rw [hq]; exact Yd5 _ hu⟩
   ·exact ⟨r,Yd5 _ e,fun u hu => hu⟩
theorem Zcz : ∀ {l : List Y8} {v : Int},(Y3 l).2 = some v → ∃ r ∈ l,v ∈ r.q
 | [],v,h => by cases h
 | a :: l,v,h => by
  unfold Y3 at h
  cases hq : a.q with
  | nil =>
   simp only [hq] at h
   obtain ⟨r,h1,h2⟩ := Zcz h
   exact ⟨r,Yd5 _ h1,h2⟩
  | cons u q =>
   simp only [hq,Option.some.injEq] at h
   subst h
   exact ⟨a,Yd3,by rw [hq]; exact Yd3⟩
theorem Zsb (l : List Y8) : (Y3 l).1.length = l.length := by
 induction l with
 | nil => rfl
 | cons a l ih =>
  unfold Y3
  cases hq : a.q with
  | nil => simp only [Yef,ih]
  | cons u q => simp only [Yef]
theorem Zd4 {cap : Int} {a b : List Ev} {e : Ev} (h : Qz cap (a ++ b)) (hd : e.d = 2) (hn : 0 ≤ e.n ∧ e.n ≤ 65536) : Qz cap ((a ++ [e]) ++ b) ∧ Y6 ((a ++ [e]) ++ b) = Y6 (a ++ b) := by
 have ha : Y6 ((a ++ [e]) ++ b) = Y6 (a ++ b) := by
  unfold Y6
  simp [Yec,hd]
 refine ⟨⟨fun x hx => ?_,by rw [ha]; exact h.nod⟩,ha⟩
 rcases Yd6.1 hx with y | y
 ·rcases Yd6.1 y with z | z
  ·exact h.one x (Yeb _ z)
  ·rw [Yd4.1 z]; exact .inr (.inl ⟨hd,hn⟩)
 ·exact h.one x (Yeh _ y)
theorem X7.gone (h : X7 N ps s) (e : Ev) (q : List Ev) (hq : s.wr.q = e :: q) : ∀ v ∈ (s.pol.step e).2,1 ≤ v ∧ v ≤ s.sh.given := by
 intro v hv
 have he : Qz s.cap (s.evs ++ [e]) := by
  have h1 := h.evs
  rw [hq,show s.evs ++ e :: q = (s.evs ++ [e]) ++ q from by simp] at h1
  refine ⟨fun a ha => h1.one a (Yeb _ ha),?_⟩
  have h2 := h1.nod
  unfold Y6 at h2 ⊢
  rw [Yec,List.map_append] at h2
  exact (Yel.1 h2).1
 have r := Zci he (played (seed:=s.seed) h.cap.1 h.cap.2 _ s.evs rfl he.init)
 rw [← h.pol] at r
 have hm := (r.gone v (Yeh _ hv)).1
 refine h.adds v ?_
 rw [hq,show s.evs ++ e :: q = (s.evs ++ [e]) ++ q from by simp]
 unfold Y6 at hm ⊢
 rw [Yec,List.map_append]
 exact Yeb _ hm
theorem Zjs {cap : Int} {l : List Ev} {e : Ev} {g' : Nat} (h : Qz cap l) (ha : ∀ n ∈ Y6 l,1 ≤ n ∧ n ≤ (g : Int)) (hg : g ≤ g') (he : (e.d = 1 ∧ e.n = (g : Int) + 1 ∧ g + 1 ≤ g' ∧ g' ≤ 65536 ∧ 0 ≤ e.w ∧ e.w ≤ cap) ∨ (e.d = 3 ∧ (0 ≤ e.n ∧ e.n ≤ 65536) ∧ 0 ≤ e.w ∧ e.w ≤ cap) ∨ (e.d = 4 ∧ 0 ≤ e.n ∧ e.n ≤ 65536)) : Qz cap (l ++ [e]) ∧ ∀ n ∈ Y6 (l ++ [e]),1 ≤ n ∧ n ≤ (g' : Int) := by
 rw [Qn]
 refine ⟨⟨fun x hx => ?_,?_⟩,fun n hn => ?_⟩
 ·rcases Yd6.1 hx with y | y
  ·exact h.one x y
  ·rw [Yd4.1 y]
   rcases he with ⟨a,b,c,d,f⟩ | a | a
   ·exact .inl ⟨a,by omega,f⟩
   ·exact .inr (.inr (.inl a))
   ·exact .inr (.inr (.inr a))
 ·rw [Qn]
  split
  ·rename_i hd
   rcases he with ⟨a,b,c⟩ | a | a
   ·refine Yel.2 ⟨h.nod,by simp,fun x hx y hy e' => ?_⟩
    rw [Yd4.1 hy] at e'
    have := ha x hx
    omega
   ·omega
   ·omega
  ·rw [List.append_nil]; exact h.nod
 ·rcases Yd6.1 hn with y | y
  ·have := ha n y; omega
  ·split at y
   ·rename_i hd
    rw [Yd4.1 y]
    rcases he with ⟨a,b,c⟩ | a | a <;> omega
   ·cases y
theorem Zqc {α : Type} {l : List (Int × α)} {k : Int} (h : (Zk l k).isSome = true) : ∃ v,Zk l k = some v := by
 cases hv : Zk l k with
 | none => rw [hv] at h; cases h
 | some v => exact ⟨v,rfl⟩
theorem X7.step (hN : N ≤ 60000) (h : X7 N ps s) (ht : s.ths[i]? = some t) (tr : Tr s i t s') : X7 N ps s' := by
 have T := h.th i t ht
 have hg := h.giv
 have htd := Zbp Zal ht
 have irr := h.irr
 cases tr with
 | done => exact h
 | wait3 => exact h
 | wait9 => exact h
 | wait12 => exact h
 | beg hp o ho ph er hb =>
  have hlt := Zdb ho
  refine (h.irr s.status s.locks (s.recs ++ [⟨i,t.op,1,Yz o,0⟩]) s.wr.res).set (t':={ t with com := Yz o,err := er,ph := ph }) ht rfl ?_ ?_
  ·unfold Zhu at hb
   refine ⟨T.op,by show 0 ≤ ph ∧ ph ≤ 16; omega,fun _ => ⟨o,ho,rfl,rfl,fun hx => ?_,fun hx => ?_⟩,fun hx => ?_,fun hx => ?_,T.back,fun hx => ?_,T.node,fun hx => ?_,T.vicR⟩
   ·exfalso; simp only at hx; omega
   ·unfold Zu at hx
    simp only at hx ⊢
    refine ⟨by trivial,by omega,by omega,by omega,by omega⟩
   ·simp only at hx ⊢; omega
   ·exfalso; simp only at hx; omega
   ·exfalso; simp only at hx; omega
   ·exfalso; simp only at hx; omega
  ·have : ¬ Zu t := by unfold Zu; omega
   rw [Zhg this]
   unfold Zal
   split <;> simp only <;> omega
 | full hp hf => exact h.go ht 2 (T.goes 2 (by omega) (by omega) (by omega) (by omega) (fun x => by omega)) (by unfold Zu; first | (intro _; simp; done) | (simp only; omega) | omega)
 | reserve hp hf => exact (irr s.status s.locks s.recs (s.wr.res + 1)).go ht 3 (T.goes 3 (by omega) (by omega) (by omega) (by omega) (fun x => by omega)) (by unfold Zu; first | (intro _; simp; done) | (simp only; omega) | omega)
 | back1 hp hl => exact h.go ht 1 (T.goes 1 (by omega) (by omega) (by omega) (by omega) (fun x => by omega)) (by unfold Zu; first | (intro _; simp; done) | (simp only; omega) | omega)
 | back16 hp hl => exact h.go ht 16 (T.goes 16 (by omega) (by omega) (by omega) (by omega) (fun x => by omega)) (by unfold Zu; first | (intro _; simp; done) | (simp only; omega) | omega)
 | drain b hp hl =>
  refine (irr 2 (s.locks.set s.sh.n ((i : Int),true)) s.recs s.wr.res).set (t':={ t with back := b,ph := 10 }) ht (by rfl) ?_ (Vj (by rfl) (by rfl) (by unfold Zu; first | (intro _; simp; done) | (simp only; omega) | omega))
  obtain ⟨o,ho,hd,hk,h4,hn⟩ := T.at_ (by omega)
  refine ⟨T.op,(show (0:Int) ≤ 10 ∧ (10:Int) ≤ 16 by decide),fun _ => ⟨o,ho,hd,hk,fun hx => ?_,fun hx => ?_⟩,fun _ => ?_,fun hx => ?_,by show b = 0 ∨ b = 1 ∨ b = 16; omega,fun _ => by show b ≠ 0; omega,T.node,fun hx => ?_,T.vicR⟩
  ·exfalso; simp only at hx; omega
  ·unfold Zu at hx
   simp only at hx ⊢
   obtain ⟨a1,a2,a3,a4,a5⟩ := hn (by unfold Zu; omega)
   refine ⟨a1,a2,a3,fun _ => a4 (by omega),fun d => ?_⟩
   have := a5 d
   omega
  ·rcases T.err (by omega) with a | a
   ·exact .inl a
   ·omega
  ·exfalso; simp only at hx; omega
  ·exfalso; simp only at hx; omega
 | lock3 hp hl => exact (irr s.status (s.locks.set (s.sh.shard t.com.k) ((i : Int),true)) s.recs s.wr.res).go ht 4 (T.goes 4 (by omega) (by omega) (by omega) (by omega) (fun x => by omega)) (by unfold Zu; first | (intro _; simp; done) | (simp only; omega) | omega)
 | lock12 hp hl => exact (irr s.status (s.locks.set (s.sh.shard (Jy s t)) ((i : Int),true)) s.recs s.wr.res).go ht 13 (T.goes 13 (by omega) (by omega) (by omega) (by omega) (fun x => T.vic (by omega))) (by unfold Zu; first | (intro _; simp; done) | (simp only; omega) | omega)
 | get hp o ho hd c hc =>
  refine (irr s.status s.locks (s.recs ++ [⟨i,t.op,2,c,0⟩]) s.wr.res).set (t':={ t with com := c,node := ((Zk s.sh.ent o.k).map (·.n)).getD 0,ph := 5 }) ht (by rfl) ?_ (Vj (by rfl) (by rfl) (by unfold Zu; first | (intro _; simp; done) | (simp only; omega) | omega))
  obtain ⟨o',ho',hd',hk',h4',hn'⟩ := T.at_ (by omega)
  rw [ho] at ho'
  cases ho'
  have herr : t.err = 0 := by rcases T.err (by omega) with a | a; exact a; omega
  refine ⟨T.op,(show (0:Int) ≤ 5 ∧ (5:Int) ≤ 16 by decide),fun _ => ⟨o,ho,by rw [hc]; exact hd',by rw [hc]; exact hk',fun _ => .inl hd,fun hx => absurd (.inl rfl) hx⟩,fun _ => .inl herr,fun hx => ?_,T.back,fun hx => ?_,?_,fun hx => ?_,T.vicR⟩
  ·exfalso; simp only at hx; omega
  ·exfalso; simp only at hx; omega
  ·show 0 ≤ _ ∧ ((Zk s.sh.ent o.k).map (·.n)).getD 0 ≤ _
   cases he : Zk s.sh.ent o.k with
   | none => exact ⟨Int.le_refl _,by show (0 : Int) ≤ _; omega⟩
   | some e => have := (h.e1 _ _ he).2.2.1; exact ⟨by show 0 ≤ e.n; omega,this.2⟩
  ·exfalso; simp only at hx; omega
 | putOld hp o ho hd e he =>
  obtain ⟨o',ho',hd',hk',h4',hn'⟩ := T.at_ (by omega)
  rw [ho] at ho'
  cases ho'
  obtain ⟨b1,b2,b3,b4,b5⟩ := hn' (by unfold Zu; omega)
  have hw : 0 ≤ o.w ∧ o.w ≤ s.cap := by omega
  obtain ⟨f1,f2,f3,f4⟩ := h.e1 _ _ he
  have hlt := Zdb ho
  have hput : s.sh.put o = { s.sh with ent := Yn s.sh.ent o.k ⟨o.k,o.v,o.w,e.n⟩ } := by unfold Sh.put; rw [he]
  have hT : ThA s.cap s.sh.given { t with ph := 5 } := by
   refine ⟨T.op,(show (0:Int) ≤ 5 ∧ (5:Int) ≤ 16 by decide),fun _ => ⟨o,ho,hd',hk',fun _ => h4' (.inl hp),fun hx => absurd (.inl rfl) hx⟩,fun _ => .inl b2,fun hx => ?_,T.back,fun hx => ?_,T.node,fun hx => ?_,T.vicR⟩
   ·exfalso; simp only at hx; omega
   ·exfalso; simp only at hx; omega
   ·exfalso; simp only at hx; omega
  obtain ⟨v1,v2⟩ := Zjs (e:=⟨3,e.n,o.k,o.w⟩) h.evs h.adds (Yd1 _) (.inr (.inl ⟨rfl,⟨by show 0 ≤ e.n; omega,by show e.n ≤ _; omega⟩,hw⟩))
  rw [hput]
  refine X7.set (t':={ t with ph := 5 }) ?_ ht (by rfl) hT (Vj (by rfl) (by rfl) (by unfold Zu; first | (intro _; simp; done) | (simp only; omega) | omega))
  refine ⟨h.cap,h.n,h.rl,h.progs,h.th,h.ke.put _ _,h.kk,h.km,?_,?_,h.k1,?_,?_,h.pol,h.rings,h.giv⟩
  ·intro k e' hke
   simp only [Yv] at hke
   split at hke
   ·rename_i ek
    cases hke
    subst ek
    exact ⟨rfl,f2,f3,hw⟩
   ·exact h.e1 k e' hke
  ·intro n k hnk
   obtain ⟨e',g1,g2⟩ := h.e2 n k hnk
   simp only [Yv]
   by_cases ek : k = o.k
   ·subst ek
    rw [he] at g1
    cases g1
    exact ⟨⟨o.k,o.v,o.w,e.n⟩,by rw [if_pos rfl],g2⟩
   ·exact ⟨e',by rw [if_neg ek]; exact g1,g2⟩
  ·simp only [← Yd2]; exact v1
  ·simp only [← Yd2]; exact v2
 | putNew hp o ho hd he =>
  obtain ⟨o',ho',hd',hk',h4',hn'⟩ := T.at_ (by omega)
  rw [ho] at ho'
  cases ho'
  obtain ⟨b1,b2,b3,b4,b5⟩ := hn' (by unfold Zu; omega)
  have hw : 0 ≤ o.w ∧ o.w ≤ s.cap := by omega
  have hlt := Zdb ho
  have hput : s.sh.put o = { s.sh with ent := Yn s.sh.ent o.k ⟨o.k,o.v,o.w,(s.sh.given : Int) + 1⟩,given := s.sh.given + 1,keys := Yn s.sh.keys ((s.sh.given : Int) + 1) o.k } := by unfold Sh.put; rw [he]
  have hT : ThA s.cap (s.sh.given + 1) { t with ph := 5 } := by
   refine ThA.mono (g:=s.sh.given) ?_ (by omega)
   refine ⟨T.op,(show (0:Int) ≤ 5 ∧ (5:Int) ≤ 16 by decide),fun _ => ⟨o,ho,hd',hk',fun _ => h4' (.inl hp),fun hx => absurd (.inl rfl) hx⟩,fun _ => .inl b2,fun hx => ?_,T.back,fun hx => ?_,T.node,fun hx => ?_,T.vicR⟩
   ·exfalso; simp only at hx; omega
   ·exfalso; simp only at hx; omega
   ·exfalso; simp only at hx; omega
  have htn : Zal t = t.prog.length - t.op := Zhg (by unfold Zu; omega)
  have hgt : s.sh.given + 1 ≤ 60000 := by omega
  obtain ⟨v1,v2⟩ := Zjs (e:=⟨1,(s.sh.given : Int) + 1,o.k,o.w⟩) (g':=s.sh.given + 1) h.evs h.adds (by omega) (.inl ⟨rfl,rfl,Yd1 _,by omega,hw⟩)
  rw [hput]
  refine ⟨h.cap,h.n,h.rl,(Ziy (t':={ t with ph := 5 }) ht rfl).trans h.progs,fun j u hu => ?_,h.ke.put _ _,h.kk.put _ _,h.km.put _ _,?_,?_,?_,?_,?_,h.pol,h.rings,?_⟩
  ·rcases Jf hu with ⟨rfl,rfl⟩ | ⟨_,hj⟩
   ·exact hT
   ·exact (h.th j u hj).mono (Nat.le_succ _)
  ·intro k e' hke
   have hke' : Zk (Yn s.sh.ent o.k ⟨o.k,o.v,o.w,(s.sh.given : Int) + 1⟩) k = some e' := hke
   show e'.k = k ∧ Zk (Yn s.sh.keys ((s.sh.given : Int) + 1) o.k) e'.n = some k ∧ (1 ≤ e'.n ∧ e'.n ≤ ((s.sh.given + 1 : Nat) : Int)) ∧ 0 ≤ e'.w ∧ e'.w ≤ s.cap
   rw [Yv] at hke' ⊢
   by_cases ek : k = o.k
   ·rw [if_pos ek] at hke'
    cases hke'
    subst ek
    exact ⟨rfl,by rw [if_pos rfl],⟨by simp only; omega,by simp only; omega⟩,hw⟩
   ·rw [if_neg ek] at hke'
    obtain ⟨g1,g2,g3,g4⟩ := h.e1 k e' hke'
    exact ⟨g1,by rw [if_neg (by omega)]; exact g2,⟨g3.1,by omega⟩,g4⟩
  ·intro n k hnk
   have hnk' : Zk (Yn s.sh.keys ((s.sh.given : Int) + 1) o.k) n = some k := hnk
   show ∃ e,Zk (Yn s.sh.ent o.k ⟨o.k,o.v,o.w,(s.sh.given : Int) + 1⟩) k = some e ∧ e.n = n
   rw [Yv] at hnk' ⊢
   by_cases en : n = (s.sh.given : Int) + 1
   ·rw [if_pos en] at hnk'
    cases hnk'
    exact ⟨_,by rw [if_pos rfl],en.symm⟩
   ·rw [if_neg en] at hnk'
    obtain ⟨e',g1,g2⟩ := h.e2 n k hnk'
    by_cases ek : k = o.k
    ·subst ek; rw [he] at g1; cases g1
    ·exact ⟨e',by rw [if_neg ek]; exact g1,g2⟩
  ·intro n k hnk
   have hnk' : Zk (Yn s.keys ((s.sh.given : Int) + 1) o.k) n = some k := hnk
   show 1 ≤ n ∧ n ≤ ((s.sh.given + 1 : Nat) : Int)
   rw [Yv] at hnk'
   by_cases en : n = (s.sh.given : Int) + 1
   ·omega
   ·rw [if_neg en] at hnk'
    have := h.k1 n k hnk'
    omega
  ·show Qz s.cap (s.evs ++ (s.wr.q ++ _)); rw [← Yd2]; exact v1
  ·show ∀ n ∈ Y6 (s.evs ++ (s.wr.q ++ _)),_; rw [← Yd2]; exact v2
  ·have hs := Qi Zal { t with ph := 5 } ht
   have h5 : Zal { t with ph := 5 } = t.prog.length - t.op - 1 := Zi5 (.inl rfl)
   show s.sh.given + 1 + Xv Zal (s.ths.set i { t with ph := 5 }) ≤ N
   omega
 | delHit hp o ho hd e he c hc =>
  obtain ⟨o',ho',hd',hk',h4',hn'⟩ := T.at_ (by omega)
  rw [ho] at ho'
  cases ho'
  obtain ⟨b1,b2,b3,b4,b5⟩ := hn' (by unfold Zu; omega)
  obtain ⟨f1,f2,f3,f4⟩ := h.e1 _ _ he
  have hlt := Zdb ho
  have hrem : s.sh.remove o.k = { s.sh with ent := Xe s.sh.ent o.k,keys := Xe s.sh.keys e.n } := by unfold Sh.remove; rw [he]
  have hT : ThA s.cap s.sh.given { t with com := c,ph := 5 } := by
   refine ⟨T.op,(show (0:Int) ≤ 5 ∧ (5:Int) ≤ 16 by decide),fun _ => ⟨o,ho,by rw [hc]; exact hd',by rw [hc]; exact hk',fun _ => h4' (.inl hp),fun hx => absurd (.inl rfl) hx⟩,fun _ => .inl b2,fun hx => ?_,T.back,fun hx => ?_,T.node,fun hx => ?_,T.vicR⟩
   ·exfalso; simp only at hx; omega
   ·exfalso; simp only at hx; omega
   ·exfalso; simp only at hx; omega
  obtain ⟨v1,v2⟩ := Zjs (e:=⟨4,e.n,o.k,e.w⟩) h.evs h.adds (Yd1 _) (.inr (.inr ⟨rfl,⟨by show 0 ≤ e.n; omega,by show e.n ≤ _; omega⟩⟩))
  rw [hrem]
  refine X7.set (t':={ t with com := c,ph := 5 }) ?_ ht (by rfl) hT (Vj (by rfl) (by rfl) (by unfold Zu; first | (intro _; simp; done) | (simp only; omega) | omega))
  refine ⟨h.cap,h.n,h.rl,h.progs,h.th,h.ke.del _,h.kk.del _,h.km,?_,?_,h.k1,?_,?_,h.pol,h.rings,h.giv⟩
  ·intro k e' hke
   simp only [Xp] at hke ⊢
   split at hke
   ·cases hke
   ·rename_i ek
    obtain ⟨g1,g2,g3⟩ := h.e1 k e' hke
    refine ⟨g1,?_,g3⟩
    rw [if_neg,g2]
    intro en
    rw [en,f2] at g2
    cases g2
    exact ek rfl
  ·intro n k hnk
   simp only [Xp] at hnk ⊢
   split at hnk
   ·cases hnk
   ·rename_i en
    obtain ⟨e',g1,g2⟩ := h.e2 n k hnk
    refine ⟨e',?_,g2⟩
    rw [if_neg]
    ·exact g1
    ·intro ek
     rw [ek,he] at g1
     cases g1
     exact en g2.symm
  ·simp only [← Yd2]; exact v1
  ·simp only [← Yd2]; exact v2
 | delMiss hp o ho hd he c hc =>
  refine (irr s.status s.locks (s.recs ++ [⟨i,t.op,2,c,0⟩]) (s.wr.res - 1)).set (t':={ t with com := c,ph := 5 }) ht (by rfl) ?_ (Vj (by rfl) (by rfl) (by unfold Zu; first | (intro _; simp; done) | (simp only; omega) | omega))
  obtain ⟨o',ho',hd',hk',h4',hn'⟩ := T.at_ (by omega)
  rw [ho] at ho'
  cases ho'
  obtain ⟨b1,b2,b3,b4,b5⟩ := hn' (by unfold Zu; omega)
  refine ⟨T.op,(show (0:Int) ≤ 5 ∧ (5:Int) ≤ 16 by decide),fun _ => ⟨o,ho,by rw [hc]; exact hd',by rw [hc]; exact hk',fun _ => h4' (.inl hp),fun hx => absurd (.inl rfl) hx⟩,fun _ => .inl b2,fun hx => ?_,T.back,fun hx => ?_,T.node,fun hx => ?_,T.vicR⟩
  ·exfalso; simp only at hx; omega
  ·exfalso; simp only at hx; omega
  ·exfalso; simp only at hx; omega
 | unlock hp ph hu =>
  unfold Zp8 at hu
  have hph : ph = 7 ∨ ph = 16 ∨ (ph = 6 ∧ t.com.d = 1) := by rcases hu with ⟨a,_⟩ | ⟨a,_⟩ | ⟨a,b,_⟩ <;> omega
  exact (irr s.status (s.locks.set (s.sh.shard t.com.k) (0,false)) s.recs s.wr.res).go ht ph (T.goes ph (by omega) (by omega) (by omega) (by omega) (fun x => by omega)) (by unfold Zu; first | (intro _; simp; done) | (simp only; omega) | omega)
 | offer hp r hr hq =>
  refine X7.go (s:={ s with rings := s.rings.set (Jd s i) { r with q := r.q ++ [t.node] } }) (t:=t) ?_ ht 16 (T.goes 16 (by omega) (by omega) (by omega) (by omega) (fun x => by omega)) (by unfold Zu; first | (intro _; simp; done) | (simp only; omega) | omega)
  refine ⟨h.cap,h.n,by simpa using h.rl,h.progs,h.th,h.ke,h.kk,h.km,h.e1,h.e2,h.k1,h.evs,h.adds,h.pol,fun r' hr' v hv => ?_,h.giv⟩
  obtain ⟨n0,n1⟩ := T.node
  rcases List.mem_or_eq_of_mem_set hr' with a | a
  ·exact h.rings r' a v hv
  ·subst a
   rcases Yd6.1 hv with b | b
   ·exact h.rings r (List.mem_of_getElem? hr) v b
   ·rw [Yd4.1 b]; omega
 | lost hp => exact h.go ht 8 (T.goes 8 (by omega) (by omega) (by omega) (by omega) (fun x => by omega)) (by unfold Zu; first | (intro _; simp; done) | (simp only; omega) | omega)
 | mark hp => exact (irr (J5 s.status) s.locks s.recs s.wr.res).go ht 8 (T.goes 8 (by omega) (by omega) (by omega) (by omega) (fun x => by omega)) (by unfold Zu; first | (intro _; simp; done) | (simp only; omega) | omega)
 | ans hp =>
  obtain ⟨o,ho,hd,hk,h4,hn⟩ := T.at_ (by omega)
  have hlt := Zdb ho
  refine (irr s.status s.locks (s.recs ++ [⟨i,t.op,3,t.com,t.err⟩]) s.wr.res).set (t':={ t with op := t.op + 1,ph := 0 }) ht (by rfl) ?_ ?_
  ·refine ⟨hlt,(show (0:Int) ≤ 0 ∧ (0:Int) ≤ 16 by decide),fun hx => absurd rfl hx,fun _ => .inr rfl,fun hx => ?_,T.back,fun hx => ?_,T.node,fun hx => ?_,T.vicR⟩
   ·exfalso; simp only at hx; omega
   ·exfalso; simp only at hx; omega
   ·exfalso; simp only at hx; omega
  ·have a1 : Zal t = t.prog.length - t.op - 1 := Zi5 (by unfold Zu; omega)
   have a2 : Zal { t with op := t.op + 1,ph := 0 } = t.prog.length - (t.op + 1) := Zhg (by unfold Zu; simp only; omega)
   omega
 | reads0 hp hr => exact h.go ht 11 (T.goes 11 (by omega) (by omega) (by omega) (by omega) (fun x => by omega)) (by unfold Zu; first | (intro _; simp; done) | (simp only; omega) | omega)
 | reads1 hp v hr =>
  obtain ⟨r,hr1,hr2⟩ := Zcz hr
  obtain ⟨m1,m2⟩ := Zd4 (e:=⟨2,v,0,0⟩) h.evs rfl (h.rings r hr1 v hr2)
  refine ⟨h.cap,h.n,?_,h.progs,h.th,h.ke,h.kk,h.km,h.e1,h.e2,h.k1,m1,?_,?_,fun r' hr' v' hv' => ?_,h.giv⟩
  ·show 1 ≤ (Y3 s.rings).1.length ∧ (Y3 s.rings).1.length ≤ 64
   rw [Zsb]; exact h.rl
  ·show ∀ n ∈ Y6 ((s.evs ++ [⟨2,v,0,0⟩]) ++ s.wr.q),_
   rw [m2]; exact h.adds
  ·show (s.pol.step ⟨2,v,0,0⟩).1 = ((Xn s.cap s.seed).play (s.evs ++ [⟨2,v,0,0⟩])).1
   rw [Vk,h.pol]
  ·obtain ⟨r0,g1,g2⟩ := Zi4 hr'
   exact h.rings r0 g1 v' (g2 v' hv')
 | writes0 hp hq => exact h.go ht 15 (T.goes 15 (by omega) (by omega) (by omega) (by omega) (fun x => by omega)) (by unfold Zu; first | (intro _; simp; done) | (simp only; omega) | omega)
 | writes1 hp e q hq ph hn =>
  have hge := h.gone e q hq
  have hT : ThA s.cap s.sh.given { t with vic := (s.pol.step e).2,ph := 11 } := ⟨T.op,(show (0:Int) ≤ 11 ∧ (11:Int) ≤ 16 by decide),fun h0 => by have := T.at_ (by omega); unfold Zu at this ⊢; rw [hp] at this; exact this,fun _ => by have := T.err (by omega); show t.err = 0 ∨ (11 : Int) = 0; omega,fun hx => by simp only at hx; omega,T.back,fun _ => T.back1 (by omega),T.node,fun hx => by simp only at hx; omega,hge⟩
  have h1 : X7 N ps (Yj { s with wr := { s.wr with q := q } } e) := by
   have hE : (s.evs ++ [e]) ++ q = s.evs ++ s.wr.q := by rw [hq]; simp
   refine ⟨h.cap,h.n,h.rl,h.progs,h.th,h.ke,h.kk,h.km,h.e1,h.e2,h.k1,?_,?_,?_,h.rings,h.giv⟩
   ·show Qz s.cap ((s.evs ++ [e]) ++ q); rw [hE]; exact h.evs
   ·show ∀ n ∈ Y6 ((s.evs ++ [e]) ++ q),_; rw [hE]; exact h.adds
   ·show (s.pol.step e).1 = ((Xn s.cap s.seed).play (s.evs ++ [e])).1
    rw [Vk,h.pol]
  have hph : ph = 11 ∨ (ph = 12 ∧ (s.pol.step e).2 ≠ []) := by unfold Jn at hn; rcases hn with ⟨_,a⟩ | ⟨a,b⟩; exact .inl a; exact .inr ⟨b,a⟩
  have h2 := X7.set (t':={ t with vic := (s.pol.step e).2,ph := 11 }) h1 ht (by rfl) hT (Vj (by rfl) (by rfl) (by unfold Zu; first | (intro _; simp; done) | (simp only; omega) | omega))
  rcases hph with rfl | ⟨rfl,hv⟩
  ·exact h2
  ·refine X7.set (t':={ t with vic := (s.pol.step e).2,ph := 12 }) h1 ht (by rfl) ?_ (Vj (by rfl) (by rfl) (by unfold Zu; first | (intro _; simp; done) | (simp only; omega) | omega))
   exact ThA.goes (t:={ t with vic := (s.pol.step e).2,ph := 11 }) hT 12 (by simp) (by omega) (by simp) (by simp) (fun _ => hv)
 | evict0 hp hk => exact h.go ht 14 (T.goes 14 (by omega) (by omega) (by omega) (by omega) (fun x => T.vic (by omega))) (by unfold Zu; first | (intro _; simp; done) | (simp only; omega) | omega)
 | evict1 hp k hk e he =>
  obtain ⟨f1,f2,f3,f4⟩ := h.e1 _ _ he
  have hrem : s.sh.remove k = { s.sh with ent := Xe s.sh.ent k,keys := Xe s.sh.keys e.n } := by unfold Sh.remove; rw [he]
  rw [hrem]
  refine X7.go (s:={ s with sh := { s.sh with ent := Xe s.sh.ent k,keys := Xe s.sh.keys e.n },recs := s.recs ++ [⟨i,-1,2,⟨4,e.k,e.v,true⟩,0⟩] }) (t:=t) ?_ ht 14 (T.goes 14 (by omega) (by omega) (by omega) (by omega) (fun x => T.vic (by omega))) (by unfold Zu; first | (intro _; simp; done) | (simp only; omega) | omega)
  refine ⟨h.cap,h.n,h.rl,h.progs,h.th,h.ke.del _,h.kk.del _,h.km,?_,?_,h.k1,h.evs,h.adds,h.pol,h.rings,h.giv⟩
  ·intro k' e' hke
   simp only [Xp] at hke ⊢
   split at hke
   ·cases hke
   ·rename_i ek
    obtain ⟨g1,g2,g3⟩ := h.e1 k' e' hke
    refine ⟨g1,?_,g3⟩
    rw [if_neg,g2]
    intro en
    rw [en,f2] at g2
    cases g2
    exact ek rfl
  ·intro n k' hnk
   simp only [Xp] at hnk ⊢
   split at hnk
   ·cases hnk
   ·rename_i en
    obtain ⟨e',g1,g2⟩ := h.e2 n k' hnk
    refine ⟨e',?_,g2⟩
    rw [if_neg]
    ·exact g1
    ·intro ek
     rw [ek,he] at g1
     cases g1
     exact en g2.symm
 | release hp ph hn =>
  have hph : (ph = 11 ∧ t.vic.drop 1 = []) ∨ (ph = 12 ∧ t.vic.drop 1 ≠ []) := by unfold Jn at hn; rcases hn with ⟨a,b⟩ | ⟨a,b⟩; exact .inl ⟨b,a⟩; exact .inr ⟨b,a⟩
  refine (irr s.status (s.locks.set (s.sh.shard (Jy s t)) (0,false)) s.recs s.wr.res).set (t':={ t with vic := t.vic.drop 1,ph := ph }) ht (by rfl) ?_ (Vj (by rfl) (by rfl) (by unfold Zu; first | (intro _; simp; done) | (simp only; omega) | omega))
  have hv : ∀ v ∈ t.vic.drop 1,1 ≤ v ∧ v ≤ (s.sh.given : Int) := fun v hv => T.vicR v (List.mem_of_mem_drop hv)
  refine ⟨T.op,by show 0 ≤ ph ∧ ph ≤ 16; omega,fun h0 => ?_,fun _ => by have := T.err (by omega); show t.err = 0 ∨ ph = 0; omega,fun hx => by simp only at hx; omega,T.back,fun _ => T.back1 (by omega),T.node,fun hx => ?_,hv⟩
  ·obtain ⟨o,ho,hd,hk,h4,hn⟩ := T.at_ (by omega)
   refine ⟨o,ho,hd,hk,fun hx => by simp only at hx; omega,fun hx => ?_⟩
   unfold Zu at hx hn
   simp only at hx ⊢
   obtain ⟨a1,a2,a3,a4,a5⟩ := hn (by omega)
   exact ⟨a1,a2,a3,fun _ => a4 (by omega),fun d => by have := a5 d; omega⟩
  ·rcases hph with ⟨a,_⟩ | ⟨a,b⟩
   ·simp only at hx; omega
   ·exact b
 | again hp hc => exact (irr 2 s.locks s.recs s.wr.res).go ht 10 (T.goes 10 (by omega) (by omega) (by omega) (by omega) (fun x => by omega)) (by unfold Zu; first | (intro _; simp; done) | (simp only; omega) | omega)
 | finish hp hc =>
  have hb := T.back
  have hb1 := T.back1 (by omega)
  exact (irr 0 (s.locks.set s.sh.n (0,false)) s.recs s.wr.res).go ht t.back (T.goes t.back (by omega) (by omega) (by omega) (by omega) (fun x => by omega)) (by unfold Zu; first | (intro _; simp; done) | (simp only; omega) | omega)
def Has (s : St) (t : Th) (k : Nat) : Prop := ((t.ph = 4 ∨ t.ph = 5) ∧ k = s.sh.shard t.com.k) ∨ ((t.ph = 13 ∨ t.ph = 14) ∧ k = s.sh.shard ((Zk s.keys (t.vic.headD 0)).getD 0)) ∨ (10 ≤ t.ph ∧ t.ph ≤ 15 ∧ k = s.sh.n)
def Zbx (t : Th) : Nat := if (t.ph = 3 ∨ t.ph = 4) ∧ t.com.d ≠ 1 then 1 else 0
structure Zgc (s : St) : Prop where
 ll : s.locks.length = s.sh.n + 1
 l1 : ∀ (k : Nat) (a : Int),s.locks[k]? = some (a,true) → ∃ (j : Nat) (t : Th),a = (j : Int) ∧ s.ths[j]? = some t ∧ Has s t k
 l2 : ∀ (j : Nat) (t : Th) (k : Nat),s.ths[j]? = some t → Has s t k → s.locks[k]? = some ((j : Int),true)
structure Zmn (s : St) : Prop where
 lk : Zgc s
 res : s.wr.res = Xv Zbx s.ths
 room : s.wr.q.length + s.wr.res ≤ s.wr.size
theorem Zco {s : Sh} (h : 1 ≤ s.n) (k : Int) : s.shard k < s.n := by
 unfold Sh.shard
 exact Qo _ _ (by omega)
theorem Zgv (h : Xr s k = false) : ∃ a,s.locks[k]? = some (a,false) := by
 unfold Xr at h
 rw [Yed] at h
 cases hk : s.locks[k]? with
 | none => rw [hk] at h; cases h
 | some p =>
  rw [hk] at h
  obtain ⟨a,b⟩ := p
  simp only [Option.getD_some] at h
  subst h
  exact ⟨a,rfl⟩
theorem Zia (hk : k < s.locks.length) (h : Xr s k = true) : ∃ a,s.locks[k]? = some (a,true) := by
 unfold Xr at h
 rw [Yed,Yee hk] at h
 rw [Yee hk]
 generalize s.locks[k] = p at h
 obtain ⟨a,b⟩ := p
 simp only [Option.getD_some] at h
 subst h
 exact ⟨a,rfl⟩
theorem Zeb {l : List (Int × Bool)} {j : Nat} {v : Int × Bool} (hk : k < l.length) : (l.set k v)[j]? = if j = k then some v else l[j]? := by
 rw [List.getElem?_set]
 by_cases e : k = j
 ·subst e; rw [if_pos rfl,if_pos rfl,if_pos hk]
 ·rw [if_neg e,if_neg (fun x => e x.symm)]
theorem Zgc.same (h : Zgc s) (ht : s.ths[i]? = some t) (hs : s'.ths = s.ths.set i t') (hl : s'.locks = s.locks) (hn : s'.sh.n = s.sh.n) (ho : ∀ (j : Nat) (u : Th),j ≠ i → s.ths[j]? = some u → ∀ k,Has s' u k ↔ Has s u k) (hi : ∀ k,Has s' t' k ↔ Has s t k) : Zgc s' := by
 refine ⟨by rw [hl,hn]; exact h.ll,fun k a hk => ?_,fun j u k hj hu => ?_⟩
 ·rw [hl] at hk
  obtain ⟨j,u,rfl,h1,h2⟩ := h.l1 k a hk
  by_cases e : j = i
  ·subst e
   rw [ht] at h1
   cases h1
   exact ⟨j,t',rfl,by rw [hs]; exact Zcn ht,(hi k).2 h2⟩
  ·exact ⟨j,u,rfl,by rw [hs,Zay e]; exact h1,(ho j u e h1 k).2 h2⟩
 ·rw [hl]
  rw [hs] at hj
  rcases Jf hj with ⟨rfl,rfl⟩ | ⟨hne,hj'⟩
  ·exact h.l2 j t k ht ((hi k).1 hu)
  ·exact h.l2 j u k hj' ((ho j u hne hj' k).1 hu)
theorem Zgc.take (h : Zgc s) (ht : s.ths[i]? = some t) (hs : s'.ths = s.ths.set i t') {k0 : Nat} (hf : Xr s k0 = false) (hl : s'.locks = s.locks.set k0 ((i : Int),true)) (hn : s'.sh.n = s.sh.n) (ho : ∀ (j : Nat) (u : Th),j ≠ i → s.ths[j]? = some u → ∀ k,Has s' u k ↔ Has s u k) (hi : ∀ k,Has s' t' k ↔ Has s t k ∨ k = k0) : Zgc s' := by
 obtain ⟨a0,ha0⟩ := Zgv hf
 have hk0 : k0 < s.locks.length := by
  rcases Nat.lt_or_ge k0 s.locks.length with b | b
  ·exact b
  ·rw [Yeg b] at ha0; cases ha0
 refine ⟨by rw [hl,List.length_set,hn]; exact h.ll,fun k a hk => ?_,fun j u k hj hu => ?_⟩
 ·rw [hl,Zeb hk0] at hk
  by_cases e : k = k0
  ·rw [if_pos e] at hk
   cases hk
   exact ⟨i,t',rfl,by rw [hs]; exact Zcn ht,(hi k).2 (.inr e)⟩
  ·rw [if_neg e] at hk
   obtain ⟨j,u,rfl,h1,h2⟩ := h.l1 k a hk
   by_cases e' : j = i
   ·subst e'
    rw [ht] at h1
    cases h1
    exact ⟨j,t',rfl,by rw [hs]; exact Zcn ht,(hi k).2 (.inl h2)⟩
   ·exact ⟨j,u,rfl,by rw [hs,Zay e']; exact h1,(ho j u e' h1 k).2 h2⟩
 ·rw [hl,Zeb hk0]
  rw [hs] at hj
  rcases Jf hj with ⟨rfl,rfl⟩ | ⟨hne,hj'⟩
  ·rcases (hi k).1 hu with b | b
   ·have := h.l2 j t k ht b
    split
    ·rfl
    ·exact this
   ·rw [if_pos b]
  ·have := h.l2 j u k hj' ((ho j u hne hj' k).1 hu)
   split
   ·rename_i e; subst e; rw [ha0] at this; cases this
   ·exact this
theorem Zgc.free (h : Zgc s) (ht : s.ths[i]? = some t) (hs : s'.ths = s.ths.set i t') {k0 : Nat} (hf : Has s t k0) (hl : s'.locks = s.locks.set k0 (0,false)) (hn : s'.sh.n = s.sh.n) (ho : ∀ (j : Nat) (u : Th),j ≠ i → s.ths[j]? = some u → ∀ k,Has s' u k ↔ Has s u k) (hi : ∀ k,Has s' t' k ↔ Has s t k ∧ k ≠ k0) : Zgc s' := by
 have ha0 := h.l2 i t k0 ht hf
 have hk0 : k0 < s.locks.length := by
  rcases Nat.lt_or_ge k0 s.locks.length with b | b
  ·exact b
  ·rw [Yeg b] at ha0; cases ha0
 refine ⟨by rw [hl,List.length_set,hn]; exact h.ll,fun k a hk => ?_,fun j u k hj hu => ?_⟩
 ·rw [hl,Zeb hk0] at hk
  by_cases e : k = k0
  ·rw [if_pos e] at hk
   cases hk
  ·rw [if_neg e] at hk
   obtain ⟨j,u,rfl,h1,h2⟩ := h.l1 k a hk
   by_cases e' : j = i
   ·subst e'
    rw [ht] at h1
    cases h1
    exact ⟨j,t',rfl,by rw [hs]; exact Zcn ht,(hi k).2 ⟨h2,e⟩⟩
   ·exact ⟨j,u,rfl,by rw [hs,Zay e']; exact h1,(ho j u e' h1 k).2 h2⟩
 ·rw [hl,Zeb hk0]
  rw [hs] at hj
  rcases Jf hj with ⟨rfl,rfl⟩ | ⟨hne,hj'⟩
  ·obtain ⟨b1,b2⟩ := (hi k).1 hu
   rw [if_neg b2]
   exact h.l2 j t k ht b1
  ·have := h.l2 j u k hj' ((ho j u hne hj' k).1 hu)
   split
   ·rename_i e
    subst e
    rw [ha0] at this
    cases this
    exact absurd rfl hne
   ·exact this
theorem Zmn.mk' (h : Zmn s) (hl : Zgc s') (ht : s.ths[i]? = some t) (hs : s'.ths = s.ths.set i t') (hz : s'.wr.size = s.wr.size) (hr : s'.wr.res + Zbx t = s.wr.res + Zbx t') (hq : s'.wr.q.length + s'.wr.res ≤ s.wr.size) : Zmn s' := by
 refine ⟨hl,?_,by rw [hz]; exact hq⟩
 have := Qi Zbx t' ht
 have := h.res
 rw [hs]
 omega
theorem Vm (s : Sh) (o : Op) (k : Int) : (s.put o).shard k = s.shard k := by unfold Sh.put; cases Zk s.ent o.k <;> rfl
theorem Zii (s : Sh) (o : Op) : (s.put o).n = s.n := by unfold Sh.put; cases Zk s.ent o.k <;> rfl
theorem Jj (s : Sh) (o k : Int) : (s.remove o).shard k = s.shard k := by unfold Sh.remove; cases Zk s.ent o <;> rfl
theorem Zau (s : Sh) (o : Int) : (s.remove o).n = s.n := by unfold Sh.remove; cases Zk s.ent o <;> rfl
theorem Zo (h : t.ph ≠ 3 ∧ t.ph ≠ 4) : Zbx t = 0 := by unfold Zbx; rw [if_neg (by omega)]
theorem Zyx (h : t.com.d = t'.com.d) (h1 : (t.ph = 3 ∨ t.ph = 4) ↔ (t'.ph = 3 ∨ t'.ph = 4)) : Zbx t = Zbx t' := by unfold Zbx; rw [h]; simp only [h1]
theorem Zaw (h : t.ph = 3 ∨ t.ph = 4) (hd : t.com.d ≠ 1) : Zbx t = 1 := by unfold Zbx; rw [if_pos ⟨h,hd⟩]
theorem Ziw (hd : t.com.d = 1) : Zbx t = 0 := by unfold Zbx; rw [if_neg (fun h => h.2 hd)]
theorem Zmn.step (A : X7 N ps s) (h : Zmn s) (ht : s.ths[i]? = some t) (tr : Tr s i t s') : Zmn s' := by
 have T := A.th i t ht
 have L := h.lk
 have hroom := h.room
 have hres := h.res
 have hle := Zbp Zbx ht
 have hsl := fun k => Zco A.n.1 k
 have rf : ∀ (j : Nat) (u : Th),j ≠ i → s.ths[j]? = some u → ∀ k,Has s u k ↔ Has s u k := fun _ _ _ _ _ => Iff.rfl
 cases tr with
 | done => exact h
 | wait3 => exact h
 | wait9 => exact h
 | wait12 => exact h
 | beg hp o ho ph er hb =>
  unfold Zhu at hb
  refine h.mk' (t':={ t with com := Yz o,err := er,ph := ph }) (L.same ht rfl rfl rfl rf (fun k => ?_)) ht rfl rfl ?_ hroom
  ·dsimp only [Has,Zl,Yr,Z9,Yj]; omega
  ·rw [Zo (t:=t) (by omega)]
   by_cases e : ph = 3
   ·have : o.d = 1 := by omega
    rw [Ziw (by exact this)]
    rfl
   ·rw [Zo (by simp only; omega)]
    rfl
 | full hp hf =>
  refine h.mk' (t':={ t with ph := 2 }) (L.same ht rfl rfl rfl rf (fun k => ?_)) ht rfl rfl ?_ hroom
  ·dsimp only [Has,Zl,Yr,Z9,Yj]; omega
  ·rw [Zo (t:=t) (by omega),Zo (by simp)]; rfl
 | reserve hp hf =>
  obtain ⟨o,ho,hd,hk,h4,hn⟩ := T.at_ (by omega)
  obtain ⟨b1,b2,b3,b4,b5⟩ := hn (by unfold Zu; omega)
  refine h.mk' (t':={ t with ph := 3 }) (L.same ht rfl rfl rfl rf (fun k => ?_)) ht rfl rfl ?_ ?_
  ·dsimp only [Has,Zl,Yr,Z9,Yj]; omega
  ·rw [Zo (t:=t) (by omega),Zaw (.inl rfl) (by show t.com.d ≠ 1; omega)]; rfl
  ·show s.wr.q.length + (s.wr.res + 1) ≤ s.wr.size; omega
 | back1 hp hl =>
  refine h.mk' (t':={ t with ph := 1 }) (L.same ht rfl rfl rfl rf (fun k => ?_)) ht rfl rfl ?_ hroom
  ·dsimp only [Has,Zl,Yr,Z9,Yj]; omega
  ·rw [Zo (t:=t) (by omega),Zo (by simp)]; rfl
 | back16 hp hl =>
  refine h.mk' (t':={ t with ph := 16 }) (L.same ht rfl rfl rfl rf (fun k => ?_)) ht rfl rfl ?_ hroom
  ·dsimp only [Has,Zl,Yr,Z9,Yj]; omega
  ·rw [Zo (t:=t) (by omega),Zo (by simp)]; rfl
 | drain b hp hl =>
  refine h.mk' (t':={ t with back := b,ph := 10 }) (L.take ht rfl hl rfl rfl rf (fun k => ?_)) ht rfl rfl ?_ hroom
  ·dsimp only [Has,Zl,Yr,Z9,Yj]; omega
  ·rw [Zo (t:=t) (by omega),Zo (by simp)]; rfl
 | lock3 hp hl =>
  refine h.mk' (t':={ t with ph := 4 }) (L.take ht rfl hl rfl rfl rf (fun k => ?_)) ht rfl rfl ?_ hroom
  ·dsimp only [Has,Zl,Yr,Z9,Yj]; omega
  ·rw [Zyx (t:=t) (t':={ t with ph := 4 }) rfl (by dsimp only; omega)]; rfl
 | lock12 hp hl =>
  refine h.mk' (t':={ t with ph := 13 }) (L.take ht rfl hl rfl rfl rf (fun k => ?_)) ht rfl rfl ?_ hroom
  ·dsimp only [Has,Jy,Zl]; omega
  ·rw [Zo (t:=t) (by omega),Zo (by simp)]; rfl
 | get hp o ho hd c hc =>
  obtain ⟨o',ho',hd',hk',h4',hn'⟩ := T.at_ (by omega)
  rw [ho] at ho'
  cases ho'
  have hck : c.k = t.com.k := by rw [hc]
  refine h.mk' (t':={ t with com := c,node := ((Zk s.sh.ent o.k).map (·.n)).getD 0,ph := 5 }) (L.same ht rfl rfl rfl rf (fun k => ?_)) ht rfl rfl ?_ hroom
  ·dsimp only [Has,Zl,Z9]; rw [hck]; omega
  ·rw [Ziw (t:=t) (by omega),Zo (by simp)]; rfl
 | putOld hp o ho hd e he =>
  obtain ⟨o',ho',hd',hk',h4',hn'⟩ := T.at_ (by omega)
  rw [ho] at ho'
  cases ho'
  have hr1 := Zaw (t:=t) (.inr hp) (by omega)
  refine h.mk' (t':={ t with ph := 5 }) (L.same ht rfl rfl (Zii _ _) (fun j u hj hu k => ?_) (fun k => ?_)) ht rfl rfl ?_ ?_
  ·unfold Has Zl; simp only [Vm,Zii]
  ·dsimp only [Has,Zl]; rw [Vm,Vm,Zii]; omega
  ·rw [hr1,Zo (by simp)]; show s.wr.res - 1 + 1 = s.wr.res + 0; omega
  ·show (s.wr.q ++ [_]).length + (s.wr.res - 1) ≤ s.wr.size
   rw [Yd7,Yd9]; omega
 | putNew hp o ho hd he =>
  obtain ⟨o',ho',hd',hk',h4',hn'⟩ := T.at_ (by omega)
  rw [ho] at ho'
  cases ho'
  have hr1 := Zaw (t:=t) (.inr hp) (by omega)
  have hvk : ∀ (u : Th),(u.ph = 13 ∨ u.ph = 14) → (∀ v ∈ u.vic,1 ≤ v ∧ v ≤ (s.sh.given : Int)) → Zk (Yn s.keys ((s.sh.given : Int) + 1) o.k) (u.vic.headD 0) = Zk s.keys (u.vic.headD 0) := by
   intro u _ hv
   rw [Yv,if_neg]
   cases hvc : u.vic with
   | nil => show (0 : Int) ≠ _; omega
   | cons a l => have := (hv a (by rw [hvc]; exact Yd3)).2; show a ≠ _; omega
  refine h.mk' (t':={ t with ph := 5 }) (L.same ht rfl rfl (Zii _ _) (fun j u hj hu k => ?_) (fun k => ?_)) ht rfl rfl ?_ ?_
  ·unfold Has Zl; simp only [Vm,Zii]
   by_cases hu13 : u.ph = 13 ∨ u.ph = 14
   ·rw [hvk u hu13 (A.th j u hu).vicR]
   ·simp only [hu13,false_and,false_or]
  ·dsimp only [Has,Zl]; rw [Vm,Vm,Zii]; omega
  ·rw [hr1,Zo (by simp)]; show s.wr.res - 1 + 1 = s.wr.res + 0; omega
  ·show (s.wr.q ++ [_]).length + (s.wr.res - 1) ≤ s.wr.size
   rw [Yd7,Yd9]; omega
 | delHit hp o ho hd e he c hc =>
  obtain ⟨o',ho',hd',hk',h4',hn'⟩ := T.at_ (by omega)
  rw [ho] at ho'
  cases ho'
  have hck : c.k = t.com.k := by rw [hc]
  have hr1 := Zaw (t:=t) (.inr hp) (by omega)
  refine h.mk' (t':={ t with com := c,ph := 5 }) (L.same ht rfl rfl (Zau _ _) (fun j u hj hu k => ?_) (fun k => ?_)) ht rfl rfl ?_ ?_
  ·unfold Has Zl; simp only [Jj,Zau]
  ·dsimp only [Has,Zl]; rw [Jj,Jj,Zau,hck]; omega
  ·rw [hr1,Zo (by simp)]; show s.wr.res - 1 + 1 = s.wr.res + 0; omega
  ·show (s.wr.q ++ [_]).length + (s.wr.res - 1) ≤ s.wr.size
   rw [Yd7,Yd9]; omega
 | delMiss hp o ho hd he c hc =>
  obtain ⟨o',ho',hd',hk',h4',hn'⟩ := T.at_ (by omega)
  rw [ho] at ho'
  cases ho'
  have hck : c.k = t.com.k := by rw [hc]
  have hr1 := Zaw (t:=t) (.inr hp) (by omega)
  refine h.mk' (t':={ t with com := c,ph := 5 }) (L.same ht rfl rfl rfl rf (fun k => ?_)) ht rfl rfl ?_ ?_
  ·dsimp only [Has,Zl,Z9]; rw [hck]; omega
  ·rw [hr1,Zo (by simp)]; show s.wr.res - 1 + 1 = s.wr.res + 0; omega
  ·show s.wr.q.length + (s.wr.res - 1) ≤ s.wr.size; omega
 | unlock hp ph hu =>
  have hph : ph = 7 ∨ ph = 16 ∨ ph = 6 := by unfold Zp8 at hu; rcases hu with ⟨a,_⟩ | ⟨a,_⟩ | ⟨a,b,_⟩ <;> omega
  refine h.mk' (t':={ t with ph := ph }) (L.free ht rfl (k0:=s.sh.shard t.com.k) (.inl ⟨.inr hp,rfl⟩) rfl rfl rf (fun k => ?_)) ht rfl rfl ?_ hroom
  ·dsimp only [Has,Zl,Yr,Z9,Yj]; omega
  ·rw [Zo (t:=t) (by omega),Zo (by simp only; omega)]; rfl
 | offer hp r hr hq =>
  refine h.mk' (t':={ t with ph := 16 }) (L.same ht rfl rfl rfl rf (fun k => ?_)) ht rfl rfl ?_ hroom
  ·dsimp only [Has,Zl,Yr,Z9,Yj]; omega
  ·rw [Zo (t:=t) (by omega),Zo (by simp)]; rfl
 | lost hp =>
  refine h.mk' (t':={ t with ph := 8 }) (L.same ht rfl rfl rfl rf (fun k => ?_)) ht rfl rfl ?_ hroom
  ·dsimp only [Has,Zl,Yr,Z9,Yj]; omega
  ·rw [Zo (t:=t) (by omega),Zo (by simp)]; rfl
 | mark hp =>
  refine h.mk' (t':={ t with ph := 8 }) (L.same ht rfl rfl rfl rf (fun k => ?_)) ht rfl rfl ?_ hroom
  ·dsimp only [Has,Zl,Yr,Z9,Yj]; omega
  ·rw [Zo (t:=t) (by omega),Zo (by simp)]; rfl
 | ans hp =>
  refine h.mk' (t':={ t with op := t.op + 1,ph := 0 }) (L.same ht rfl rfl rfl rf (fun k => ?_)) ht rfl rfl ?_ hroom
  ·dsimp only [Has,Zl,Yr,Z9,Yj]; omega
  ·rw [Zo (t:=t) (by omega),Zo (by simp)]; rfl
 | reads0 hp hr =>
  refine h.mk' (t':={ t with ph := 11 }) (L.same ht rfl rfl rfl rf (fun k => ?_)) ht rfl rfl ?_ hroom
  ·dsimp only [Has,Zl,Yr,Z9,Yj]; omega
  ·rw [Zo (t:=t) (by omega),Zo (by simp)]; rfl
 | reads1 hp v hr => exact ⟨⟨L.ll,L.l1,L.l2⟩,h.res,h.room⟩
 | writes0 hp hq =>
  refine h.mk' (t':={ t with ph := 15 }) (L.same ht rfl rfl rfl rf (fun k => ?_)) ht rfl rfl ?_ hroom
  ·dsimp only [Has,Zl,Yr,Z9,Yj]; omega
  ·rw [Zo (t:=t) (by omega),Zo (by simp)]; rfl
 | writes1 hp e q hq ph hn =>
  have hph : ph = 11 ∨ ph = 12 := by unfold Jn at hn; rcases hn with ⟨_,a⟩ | ⟨_,a⟩ <;> omega
  refine h.mk' (t':={ t with vic := (s.pol.step e).2,ph := ph }) (L.same ht rfl rfl rfl rf (fun k => ?_)) ht rfl rfl ?_ ?_
  ·dsimp only [Has,Zl,Yr,Z9,Yj]; omega
  ·rw [Zo (t:=t) (by omega),Zo (by simp only; omega)]; rfl
  ·show q.length + s.wr.res ≤ s.wr.size
   rw [hq] at hroom
   simp only [Yef] at hroom
   omega
 | evict0 hp hk =>
  refine h.mk' (t':={ t with ph := 14 }) (L.same ht rfl rfl rfl rf (fun k => ?_)) ht rfl rfl ?_ hroom
  ·dsimp only [Has,Zl,Yr,Z9,Yj]; omega
  ·rw [Zo (t:=t) (by omega),Zo (by simp)]; rfl
 | evict1 hp k hk e he =>
  refine h.mk' (t':={ t with ph := 14 }) (L.same ht rfl rfl (Zau _ _) (fun j u hj hu k => ?_) (fun k => ?_)) ht rfl rfl ?_ hroom
  ·unfold Has Zl; simp only [Jj,Zau]
  ·dsimp only [Has,Zl]; rw [Jj,Jj,Zau]; omega
  ·rw [Zo (t:=t) (by omega),Zo (by simp)]; rfl
 | release hp ph hn =>
  have hph : ph = 11 ∨ ph = 12 := by unfold Jn at hn; rcases hn with ⟨_,a⟩ | ⟨_,a⟩ <;> omega
  have hlt := hsl (Jy s t)
  refine h.mk' (t':={ t with vic := t.vic.drop 1,ph := ph }) (L.free ht rfl (k0:=s.sh.shard (Jy s t)) (.inr (.inl ⟨.inr hp,rfl⟩)) rfl rfl rf (fun k => ?_)) ht rfl rfl ?_ hroom
  ·unfold Jy at hlt; dsimp only [Has,Jy,Zl,Yr]; omega
  ·rw [Zo (t:=t) (by omega),Zo (by simp only; omega)]; rfl
 | again hp hc =>
  refine h.mk' (t':={ t with ph := 10 }) (L.same ht rfl rfl rfl rf (fun k => ?_)) ht rfl rfl ?_ hroom
  ·dsimp only [Has,Zl,Yr,Z9,Yj]; omega
  ·rw [Zo (t:=t) (by omega),Zo (by simp)]; rfl
 | finish hp hc =>
  have hb := T.back
  refine h.mk' (t':={ t with ph := t.back }) (L.free ht rfl (k0:=s.sh.n) (.inr (.inr ⟨by omega,by omega,rfl⟩)) rfl rfl rf (fun k => ?_)) ht rfl rfl ?_ hroom
  ·dsimp only [Has,Zl,Yr,Z9,Yj]; omega
  ·rw [Zo (t:=t) (by omega),Zo (by simp only; omega)]; rfl
end Go.Proofs.YtdkhbegheognnaaGreatDoor.W

/- Part of the proof of TopEvicts, joined by a program of the session: Mcm Mct Mcu Mcv Mcw Mcx Mcy. -/
import Derived.Test.YtdkhbegheognnaaGreatDoorJ21
import Derived.Deep.Slices
namespace Go.Proofs.YtdkhbegheognnaaGreatDoor.W
open Go.RowKit Go.Maps
open _root_.Go.Proofs.Tryz renaming prog → Ydz, results3 → Yd2, ntmps3 → Yee, func3 → Yef
open _root_.List renaming getElem?_eq_getElem → Yd0, getD_eq_getElem?_getD → Yd1, take_length → Yd3, length_append → Yd4, sum_cons → Yd6, take_add_one → Yd7, getElem?_eq_some_iff → Yd8, length_map → Yd9, map_append → Yea, getElem?_eq_none → Yeb, map_cons → Yec, flatten_cons → Yed
open _root_.Go.World renaming setCell_drew → Yd5
set_option maxHeartbeats 4000000
set_option maxRecDepth 100000
variable {w : World}
variable {s : St}
variable {i cp : Nat}
variable {c : Cfg}
variable {ps : List (List Op)}
variable {v : Value}
variable {a3 : Option Addr}
variable {l : List Int}
variable {p : List Op}
section
attribute [local go_sem] Yd5 Zg Zf
structure Zzr (l : List Rec) (x : Rd) (os : List Nat) : Prop where
 len : l.length ≤ 1000
 calls : Xa l l.length = some x
 ops : ∀ r ∈ l,0 ≤ r.o ∧ r.o ≤ 100000
 few : x.calls.length ≤ 1000
 at_ : ∀ k ∈ x.calls,I64 k.a
 bare : ∀ k ∈ x.calls,Zkk l k = false ∧ k.r < (l.length : Int)
 olen : os.length ≤ 1000
 order : Ze1 l x.calls = os.map fun (i : Nat) => (i : Int)
 resp : Zs3 x.calls os
 row : Zzt l x.calls os
 legal : Vv [] (Zbj l x.calls os) = (Zbj l x.calls os).length
 keys : ∀ c ∈ Zbj l x.calls os,I64 c.k
theorem Zlx (l : List Rec) (cs : List Qq) (os : List Nat) : (Zbj l cs os).length = os.length := by unfold Zbj; rw [Yd9]
theorem Zre (os : List Nat) : Y1 (os.map fun (i : Nat) => (i : Int)) = Zc5 os := by unfold Y1 Zc5; rw [List.map_map]; rfl
theorem Zqj {a : Option Addr} {c : Nat} (l : List Rec) {x : Rd} {os : List Nat} (hl : Yy w a (Z5 l)) (hg : Zzr l x os) :
  Calls Ydz 16 #[.slice a l.length c] w fun e w' => e = .returned (.int .i64 0) ∧ Zb No w w' := by
 have hb' : ∀ r ∈ l,-1 ≤ r.o ∧ r.o ≤ 100000 := fun r hr => ⟨by have := (hg.ops r hr).1; omega,(hg.ops r hr).2⟩
 have hr : J4 l = true := by unfold J4 Zes; rw [hg.calls]; rfl
 have hO1 : Zb No w (w.alloc (.cells #[.slice a l.length c] 40)) := (Zb.refl No w).alloc _
 have HRT := Ydy (Zax (c:=c) l (hl.no hO1) hg.len hr hb')
 have HCL : Hid (∀ W,Zb No w W → Calls Ydz 39 #[.slice a l.length c] W fun e w' => ∃ a2 c2,e = .returned (.slice a2 x.calls.length c2) ∧ Yy w' a2 (Yc x.calls) ∧ Zb No W w') := Ydy (fun W hW => (Zdh (c:=c) l (hl.no hW) hg.len hg.calls hb' (fun _ => 19) 14).mono fun e w' q => by
  obtain ⟨u,rfl,hG⟩ := q
  obtain ⟨a2,c2,rfl,hs⟩ := hG.src
  exact ⟨a2,c2,rfl,hs,hG.only⟩)
 have HOR : Hid (∀ W,Zb No w W → Calls Ydz 40 #[.slice a l.length c] W fun e w' => ∃ a2 c2,e = .returned (.slice a2 os.length c2) ∧ Yy w' a2 (Zc5 os) ∧ Zb No W w') := Ydy (fun W hW => (Zrj (c:=c) l (hl.no hW) hg.len hg.calls hg.ops hg.few hg.at_ (fun _ => 19) 14).mono fun e w' q => by
  obtain ⟨u,rfl,hG⟩ := q
  rw [hg.order,Yd9,Zre] at hG
  obtain ⟨a2,c2,rfl,hs⟩ := hG.src
  exact ⟨a2,c2,rfl,hs,hG.only⟩)
 have HBC : Hid (∀ W a2 c2,Zb No w W → Yy W a2 (Yc x.calls) → W.cell? ⟨w.heap.size,0,none⟩ = some (.slice a l.length c) → Calls Ydz 43 #[.slice a2 x.calls.length c2,.func (.func 41) #[] #[Pt w.heap.size]] W fun e w' => e = .returned (.bool false) ∧ Zb No W w') := Ydy (fun W a2 c2 hW hs hc => Zhq l x.calls (hl.no hW) hs hc hg.bare hg.few)
 have HRS : Hid (∀ W a2 c2 a3 c3,Yy W a2 (Yc x.calls) → Yy W a3 (Zc5 os) → Calls Ydz 44 #[.slice a2 x.calls.length c2,.slice a3 os.length c3] W fun e w' => e = .returned (.bool true) ∧ Zb No W w') := Ydy (fun W a2 c2 a3 c3 h2 h3 => Zj1 x.calls os h2 h3 hg.resp hg.olen)
 have HRW : Hid (∀ W a3 c3,Zb No w W → Yy W a3 (Zc5 os) → Calls Ydz 45 #[.slice a l.length c,.slice a3 os.length c3] W fun e w' => ∃ a2 c2,e = .returned (.slice a2 os.length c2) ∧ Yy w' a2 ((Zbj l x.calls os).flatMap Vd) ∧ Zb No W w') := Ydy (fun W a3 c3 hW h3 => (Zw1 (c:=c) (c2:=c3) l os (hl.no hW) h3 hg.len hg.olen hg.calls hg.ops hg.row (fun _ => 19) 14).mono fun e w' q => by
  obtain ⟨u,rfl,hG⟩ := q
  obtain ⟨a2,c2,rfl,hs⟩ := hG.src
  exact ⟨a2,c2,rfl,hs,hG.only⟩)
 have HLG : Hid (∀ W a3 c3,Yy W a3 ((Zbj l x.calls os).flatMap Vd) → Calls Ydz 46 #[.slice a3 os.length c3] W fun e w' => e = .returned (.int .i64 (os.length : Int)) ∧ Zb No W w') := Ydy (fun W a3 c3 h3 => by
  have := Zie (c:=c3) (Zbj l x.calls os) h3 (by rw [Zlx]; exact hg.olen) hg.legal hg.keys
  rwa [Zlx] at this)
 have HCB : Hid (∀ W,Zb No (w.alloc (.cells #[.slice a l.length c] 40)) W → W.cell? ⟨w.heap.size,0,none⟩ = some (.slice a l.length c)) := Ydy (fun W hW => Za (hW.kept (Zh w _) (fun h => h)) rfl)
 have HO1 := Ydy hO1
 have hmf : ∀ (fn : Fn) (first cap : Array Value) (w : World),(Instr.makeFunc fn first cap).run Ydz w = .ok (.func fn first cap) w := fun _ _ _ _ => rfl
 clear hl hg hb' hr hO1
 generalize l.length = n at *
 generalize hnc : x.calls.length = nc at *
 generalize os.length = no at *
 clear hnc
 go_enter Tryz.func16,Tryz.ntmps16
 go_upto_region 1 with (fail)
 have k0 := HCB.out _ (Zb.refl No _)
 generalize hBB : w.heap.size = B at *
 clear hBB
 generalize hw0 : w.alloc (.cells #[.slice a n c] 40) = w0 at *
 clear hw0
 go_wp2_with (go_at_call 36; refine (HRT.out).mono ?_; rintro e w1 ⟨rfl,h1⟩; have H1 := Ydy h1; have k1 := HCB.out _ h1; clear h1)
 go_region_held3 (fun w' => w'.cell? ⟨B,0,none⟩ = some (.slice a n c)) (go_keep) (first | (go_at_call 39; refine (HCL.out w1.drew ((HO1.out.trans H1.out).drew)).mono ?_; rintro e w2 ⟨a2,c2,rfl,hs2,h2⟩; have HS2 := Ydy hs2; have H2 := Ydy ((H1.out.drew).trans h2); have k2 := HCB.out _ ((H1.out.drew).trans h2); clear hs2 h2) | (go_at_call 40; refine (HOR.out w2 (HO1.out.trans H2.out)).mono ?_; rintro e w3 ⟨a3,c3,rfl,hs3,h3⟩; have HS3 := Ydy hs3; have HS2' := Ydy (HS2.out.no h3); have H3 := Ydy (H2.out.trans h3); have k3 := HCB.out _ (H2.out.trans h3); clear hs3 h3))
 clear HRT HCL HOR H1 H2 HS2 k0 k1 k2
 go_wp2_with (first
  | (go_at_call 43; refine (HBC.out w3 a2 c2 (HO1.out.trans H3.out) HS2'.out k3).mono ?_; rintro e w4 ⟨rfl,h4⟩; have H4 := Ydy h4; have k4 := HCB.out _ (H3.out.trans h4); clear h4)
  | (go_at_call 44; refine (HRS.out w4 a2 c2 a3 c3 (HS2'.out.no H4.out) (HS3.out.no H4.out)).mono ?_; rintro e w5 ⟨rfl,h5⟩; have H5 := Ydy (H4.out.trans h5); have k5 := HCB.out _ (H3.out.trans (H4.out.trans h5)); clear h5)
  | (go_at_call 45; refine (HRW.out w5 a3 c3 (HO1.out.trans (H3.out.trans H5.out)) (HS3.out.no H5.out)).mono ?_; rintro e w6 ⟨a6,c6,rfl,hs6,h6⟩; have HS6 := Ydy hs6; have H6 := Ydy (HO1.out.trans (H3.out.trans (H5.out.trans h6))); clear hs6 h6)
  | (go_at_call 46; refine (HLG.out w6 a6 c6 HS6.out).mono ?_; rintro e w7 ⟨rfl,h7⟩; have H7 := Ydy (H6.out.trans h7); clear h7))
 go_ret
 exact ⟨rfl,H7.out⟩
end
def Zcl : List Rec := [⟨0,0,1,⟨2,7,70,false⟩,0⟩,⟨1,0,1,⟨2,8,80,false⟩,0⟩,⟨1,0,3,⟨2,8,80,false⟩,4⟩,⟨0,0,2,⟨2,7,70,false⟩,0⟩,⟨0,0,3,⟨2,7,70,false⟩,0⟩,⟨0,1,1,⟨1,7,0,false⟩,0⟩,⟨0,1,2,⟨1,7,70,true⟩,0⟩,⟨0,1,3,⟨1,7,70,true⟩,0⟩,⟨0,2,1,⟨4,0,0,false⟩,0⟩,⟨0,2,3,⟨4,0,0,false⟩,0⟩]
def Zuc : Ent := ⟨7,70,1,1⟩
def rd0 : Rd := ⟨[(0,(⟨0,2,3,⟨4,0,0,false⟩,0⟩,3)),(1,(⟨1,0,3,⟨2,8,80,false⟩,4⟩,1))],[⟨0,0,0,3,4⟩,⟨1,0,1,-1,2⟩,⟨0,1,5,6,7⟩,⟨0,2,8,-1,9⟩]⟩
theorem Zyy : Ze5.2 = 27 ∧ Ze5.1.recs = Zcl ∧ Ze5.1.status = 0 ∧ Ze5.1.sh.n = 1 ∧ Ze5.1.sh.ent = [(Zuc.k,Zuc)] := by decide +kernel
theorem Ya8 : Xa Zcl 10 = some rd0 := by decide +kernel
theorem Zul : Zzr Zcl rd0 [0,2] := by
 refine ⟨by decide,Ya8,by decide,by decide,?_,by decide +kernel,by decide,by decide +kernel,?_,?_,by decide +kernel,?_⟩
 ·unfold I64; decide
 ·intro i k h
  match i,h with
  | 0,h => cases h; decide +kernel
  | 1,h => cases h; decide +kernel
  | i + 2,h => simp at h
 ·intro i k h
  match i,h with
  | 0,h => cases h; exact ⟨⟨0,0,0,3,4⟩,3,_,rfl,rfl,rfl⟩
  | 1,h => cases h; exact ⟨⟨0,1,5,6,7⟩,6,_,rfl,rfl,rfl⟩
  | i + 2,h => simp at h
 ·have : Zbj Zcl rd0.calls [0,2] = [⟨2,7,70,false⟩,⟨1,7,70,true⟩] := by decide +kernel
  rw [this]
  unfold I64
  decide
theorem Ztw : (Z8 Zcl).length = 2 := by decide +kernel
theorem Ya9 : J4 Zcl = true := by decide +kernel
theorem Yam : Zb0 ps0 := ⟨by decide,by decide,by decide⟩
section
attribute [local go_sem] Yd5 Zg Zf
def Zcg : Obj := .cells #[.int .i64 2,.int .i64 7,.int .i64 70,.int .i64 1,.int .i64 1,.int .i64 7,.int .i64 0,.int .i64 0,.int .i64 4,.int .i64 0,.int .i64 0,.int .i64 0] 44
def Zdc : Obj := .cells #[.int .i64 2,.int .i64 8,.int .i64 80,.int .i64 9] 44
def Zfo (b : Nat) : Obj := .cells #[.slice (some ⟨b,0,none⟩) 3 3,.slice (some ⟨b + 1,0,none⟩) 1 1] 42
theorem Ya7 (w : World) : Jh (((w.alloc Zcg).alloc Zdc).alloc (Zfo w.heap.size)) (some ⟨w.heap.size + 2,0,none⟩) ps0 := by
 have s1 : (w.alloc Zcg).heap.size = w.heap.size + 1 := by simp
 have s2 : ((w.alloc Zcg).alloc Zdc).heap.size = w.heap.size + 2 := by simp
 have b1 : (((w.alloc Zcg).alloc Zdc).alloc (Zfo w.heap.size)).heap[w.heap.size]? = some Zcg := Zm (Zm (Zh w _))
 have b2 : (((w.alloc Zcg).alloc Zdc).alloc (Zfo w.heap.size)).heap[w.heap.size + 1]? = some Zdc := by
  refine Zm ?_
  have := Zh (w.alloc Zcg) Zdc
  rwa [s1] at this
 have b3 : (((w.alloc Zcg).alloc Zdc).alloc (Zfo w.heap.size)).heap[w.heap.size + 2]? = some (Zfo w.heap.size) := by
  have := Zh ((w.alloc Zcg).alloc Zdc) (Zfo w.heap.size)
  rwa [s2] at this
 intro k l h
 match k,h with
 | 0,h =>
  cases h
  refine ⟨_,_,rfl,by rw [Qs]; exact Za b3 rfl,.inr ⟨_,_,rfl,by decide,fun j u hu => ?_⟩⟩
  rw [Qs,Nat.zero_add]
  refine Za b1 ?_
  have hj : j < 12 := by
   rcases Nat.lt_or_ge j 12 with a | a
   ·exact a
   ·rw [Yeb (by rw [Zbh]; exact a)] at hu; cases hu
  match j,hj,hu with
  | 0,_,hu | 1,_,hu | 2,_,hu | 3,_,hu | 4,_,hu | 5,_,hu | 6,_,hu | 7,_,hu | 8,_,hu | 9,_,hu | 10,_,hu | 11,_,hu => cases hu; rfl
 | 1,h =>
  cases h
  refine ⟨_,_,rfl,by rw [Qs]; exact Za b3 rfl,.inr ⟨_,_,rfl,by decide,fun j u hu => ?_⟩⟩
  rw [Qs,Nat.zero_add]
  refine Za b2 ?_
  have hj : j < 4 := by
   rcases Nat.lt_or_ge j 4 with a | a
   ·exact a
   ·rw [Yeb (by rw [Zbh]; exact a)] at hu; cases hu
  match j,hj,hu with
  | 0,_,hu | 1,_,hu | 2,_,hu | 3,_,hu => cases hu; rfl
 | k + 2,h => simp [ps0] at h
theorem Zk7 (he : Err.ErrType w) : Calls Ydz 4 #[] w fun e w' => e = .returned (.bool true) ∧ Zb No w w' := by
 have hO1 : Zb No w (((w.alloc Zcg).alloc Zdc).alloc (Zfo w.heap.size)) := (((Zb.refl No w).alloc _).alloc _).alloc _
 have H6 := Ydy (Xb.new (w0:=w) (cp:=2) Zxf Yam (by decide) (Ya7 w) (by decide) (Zd he hO1 (fun h => h)) hO1)
 obtain ⟨z1,z2,z3,z4,z5⟩ := Zyy
 have H7 : Hid (∀ x v W,Xb ps0 w x v (Xh Zxf ps0) 0 W → Calls Ydz 7 #[Pt x,.slice (some ⟨W.heap.size,0,none⟩) 2 2,.int .i64 500] (W.alloc (.cells #[.int .i64 0,.int .i64 1] 3)) fun e w' => e = .returned (.int .i64 27) ∧ Xb ps0 w x v Ze5.1 500 w') := Ydy (fun x v W h => (h.runNew Yam [0,1] (by decide) 500 (by decide) (by decide) (by decide) 2).mono fun e w' q => ⟨q.1.trans (by show Ending.returned (.int .i64 (Ze5.2 : Int)) = _; rw [z1]; rfl),q.2⟩)
 have H14 : Hid (∀ x v W,Xb ps0 w x v Ze5.1 500 W → Calls Ydz 14 #[Pt x] W fun e w' => ∃ a c,e = .returned (.slice a 10 c) ∧ Yy w' a (Z5 Zcl) ∧ Xb ps0 w x v Ze5.1 500 w') := Ydy (fun x v W h => (h.records Yam).mono fun e w' q => by
  rw [z2] at q
  obtain ⟨a,c,q1,q2,q3,_⟩ := q
  exact ⟨a,c,q1,q2,q3⟩)
 have H16 : Hid (∀ a c W,Yy W a (Z5 Zcl) → Calls Ydz 16 #[.slice a 10 c] W fun e w' => e = .returned (.int .i64 0) ∧ Zb No W w') := Ydy (fun a c W h => Zqj Zcl h Zul)
 have H13 : Hid (∀ a c W,Yy W a (Z5 Zcl) → Calls Ydz 13 #[.slice a 10 c] W fun e w' => ∃ a2 c2,e = .returned (.slice a2 2 c2) ∧ Zb No W w') := Ydy (fun a c W h => (Zb6 (c:=c) Zcl h (by decide) Ya9 (fun r hr => ⟨by have := (Zul.ops r hr).1; omega,(Zul.ops r hr).2⟩) (fun _ => 19) 14).mono fun e w' q => by
  obtain ⟨u,rfl,hG⟩ := q
  obtain ⟨a2,c2,rfl,_⟩ := hG.src
  rw [Ztw] at hG ⊢
  exact ⟨a2,c2,rfl,hG.only⟩)
 have H18 : Hid (∀ x v W,Xb ps0 w x v Ze5.1 500 W → Calls Ydz 18 #[Pt x] W fun e w' => ∃ a c,e = .returned (.slice a 1 c) ∧ Yy w' a (Y1 [7]) ∧ Xb ps0 w x v Ze5.1 500 w') := Ydy (fun x v W h => (h.keys1 z4 z5).mono fun e w' q => by
  obtain ⟨a,c,q1,q2,q3,_⟩ := q
  exact ⟨a,c,q1,q2,q3⟩)
 have H17 : Hid (∀ a c W,Yy W a (Y1 [7]) → Calls Ydz 17 #[.slice a 1 c,.slice (some ⟨W.heap.size,0,none⟩) 1 1] (W.alloc (.cells #[.int .i64 7] 3)) fun e w' => e = .returned (.bool true) ∧ Zb No W w') := Ydy (fun a c W h => by
  have hO : Zb No W (W.alloc (.cells #[.int .i64 7] 3)) := (Zb.refl No W).alloc _
  refine (Zq8 (c:=c) (c2:=1) [7] (h.no hO) (fun j u hu => ⟨_,rfl,?_⟩) (by decide)).mono fun e w' q => ⟨q.1,hO.trans q.2⟩
  refine Za (Zh W _) ?_
  match j,hu with
  | 0,hu => cases hu; rfl
  | j + 1,hu => simp [Y1] at hu)
 have H19 : Hid (∀ x v W,Xb ps0 w x v Ze5.1 500 W → Calls Ydz 19 #[Pt x] W fun e w' => e = .returned (.int .i64 0) ∧ Xb ps0 w x v Ze5.1 501 w') := Ydy (fun x v W h => (h.status (by decide)).mono fun e w' q => ⟨by rw [q.1,z3],q.2⟩)
 have e1 : (ps0.length : Int) = 2 := rfl
 unfold Zb5 Zxf at H6
 unfold Zcg Zdc Zfo at H6
 clear he hO1 z1 z2 z3 z4 z5 e1
 go_enter Tryz.func4,Tryz.ntmps4
 go_wp2_with (first
  | (go_at_call 6; refine (H6.out).mono ?_; rintro e w1 ⟨x,v,rfl,h1⟩; have H1 := Ydy h1; clear h1)
  | (go_at_call 7; refine (H7.out x v w1 H1.out).mono ?_; rintro e w2 ⟨rfl,h2⟩; have H2 := Ydy h2; clear h2)
  | (go_at_call 14; refine (H14.out x v w2 H2.out).mono ?_; rintro e w3 ⟨a3,c3,rfl,hs3,h3⟩; have H3 := Ydy h3; have HS3 := Ydy hs3; clear h3 hs3)
  | (go_at_call 16; refine (H16.out a3 c3 w3 HS3.out).mono ?_; rintro e w4 ⟨rfl,h4⟩; have H4 := Ydy (H3.out.no h4); have HS4 := Ydy (HS3.out.no h4); clear h4)
  | (go_at_call 13; refine (H13.out a3 c3 w4 HS4.out).mono ?_; rintro e w5 ⟨a5,c5,rfl,h5⟩; have H5 := Ydy (H4.out.no h5); clear h5)
  | (go_at_call 18; refine (H18.out x v w5 H5.out).mono ?_; rintro e w6 ⟨a6,c6,rfl,hs6,h6⟩; have H6' := Ydy h6; have HS6 := Ydy hs6; clear h6 hs6)
  | (go_at_call 17; refine (H17.out a6 c6 w6 HS6.out).mono ?_; rintro e w7 ⟨rfl,h7⟩; have H7' := Ydy (H6'.out.no h7); clear h7)
  | (go_at_call 19; refine (H19.out x v w7 H7'.out).mono ?_; rintro e w8 ⟨rfl,h8⟩; have H8 := Ydy h8; clear h8))
 go_ret
 exact ⟨rfl,H8.out.only⟩
end
theorem Ybn {t : Th} {s' : St} (tr : Tr s i t s') : s'.cap = s.cap ∧ s'.seed = s.seed := by
 cases tr <;> exact ⟨rfl,rfl⟩
structure Path (c : Cfg) (ps : List (List Op)) (s : St) : Prop where
 a : J9 (Ji ps) (Zg1 ps) (14 * Ji ps) ps s
 k : Zer s
 cap : s.cap = Qg c.cap
 seed : s.seed = c.seed
 cost : Kd s ≤ 14 * Ji ps
theorem Path.new (hc : c.cap ≤ 512) (hf : Zb0 ps) : Path c ps (Xh c ps) :=
 ⟨Zpi hc (by have := hf.len; omega),Ycs,rfl,rfl,Nat.le_of_eq (Zln c ps)⟩
theorem Zpu {N M K : Nat} (hN : N ≤ 60000) {ps : List (List Op)} {l : List Int} : ∀ (k n : Nat) {s : St},J9 N M K ps s → (Qt l s n k).1.cap = s.cap ∧ (Qt l s n k).1.seed = s.seed
 | 0,_,_,_ => ⟨rfl,rfl⟩
 | k + 1,n,s,A => by
  cases hn : Ql (if l.length = 0 then 0 else l.getD (n % l.length) 0) (Xm s) with
  | none => rw [Ku hn]; exact ⟨rfl,rfl⟩
  | some j =>
   rw [Zbk hn]
   have z := Zpu hN k (n + 1) (A.step hN j).1 (l:=l)
   have y : (W.step s j).cap = s.cap ∧ (W.step s j).seed = s.seed := by
    cases ht : s.ths[j]? with
    | none => rw [V4 ht]; exact ⟨rfl,rfl⟩
    | some t => exact Ybn (A.p.tr ht)
   exact ⟨z.1.trans y.1,z.2.trans y.2⟩
theorem Path.run (h : Path c ps s) (hf : Zb0 ps) (hk : ∀ p ∈ ps,∀ o ∈ p,I64 o.k) (l : List Int) (n k : Nat) : Path c ps (Qt l s n k).1 := by
 have hN := hf.n
 have r := Zpt (N:=Ji ps) (by omega) (l:=l) k n h.a
 have q := Zpu (N:=Ji ps) (by omega) (l:=l) k n h.a
 exact ⟨r.1,Zzy (by omega) (fun p hp => ⟨hf.each p hp,hk p hp⟩) k n h.a h.k,q.1.trans h.cap,q.2.trans h.seed,Nat.le_trans r.2 h.cost⟩
theorem Path.len (h : Path c ps s) : s.ths.length = ps.length := by
 have := congrArg List.length h.a.p.a.progs
 rwa [Yd9] at this
def Vf (c : Cfg) (s : St) : List Int := ((Xn (Qg c.cap) c.seed).play s.evs).2
theorem Path.law (h : Path c ps s) : (Vf c s).Nodup ∧ (Qb (Z8 s.recs)).length ≤ (Vf c s).length ∧ ((Zg1 ps : Int) ≤ Qg c.cap → Vf c s = [] ∧ Zch s.recs = true) := by
 have := Yay h.a
 rw [h.cap,h.seed] at this
 exact this
theorem Path.adds (h : Path c ps s) (hf : Zb0 ps) : (Y6 s.evs).length ≤ 300 := by
 have A := h.a.p.a
 have hl : (Y6 s.evs).length ≤ s.sh.given := by
  refine Zef _ _ (Zb9 A.evs).nod (fun x hx => A.adds x ?_)
  unfold Y6 at hx ⊢
  rw [List.filter_append,Yea]
  exact List.mem_append_left _ hx
 have hg := A.giv
 have := hf.n
 omega
theorem Path.play (h : Path c ps s) (hf : Zb0 ps) : Zjf (Xn (Qg c.cap) c.seed) s.evs := by
 have A := h.a.p.a
 have h1 := A.cap
 have h2 := Zb9 A.evs
 rw [h.cap] at h1 h2
 exact Zyn h1.1 h1.2 h2 (h.adds hf)
theorem Path.gone_len (h : Path c ps s) (hf : Zb0 ps) : (Vf c s).length ≤ 300 := by
 have P := h.a.p.a.played
 rw [h.cap,h.seed] at P
 have := P.cnt
 have := h.adds hf
 show ((Xn (Qg c.cap) c.seed).play s.evs).2.length ≤ 300
 omega
theorem Path.recs_len (h : Path c ps s) (hf : Zb0 ps) : s.recs.length ≤ 1000 ∧ s.evs.length ≤ 1000 := by
 have := h.a.k
 have := hf.n
 omega
def Zmt (W0 : World) (px : Nat) (p : Pol) (W : World) : Prop := ∃ own l,Ext W0 (fun _ => 19) own ∧ Zb No W0 W ∧ Zv own W px l p
theorem Zmt.new (hc : c.cap ≤ 512) (W : World) : Calls Ydz 9 #[.int .i64 c.cap,.int .i64 c.seed] W fun e w' => ∃ px,e = .returned (Pt px) ∧ Zmt W px (Xn (Qg c.cap) c.seed) w' ∧ Zb No W w' :=
 (Zg4 (fun _ => 19) c.cap c.seed hc W).mono fun e w' q => by
  obtain ⟨x,l,own',q1,q2,q3,q4⟩ := q
  exact ⟨x,q1,⟨own',l,q2,q4,q3⟩,q4⟩
theorem Zmt.play {W0 W W1 : World} {px : Nat} {p : Pol} {evs : List Ev} (h : Zmt W0 px p W) (ho : Zb No W W1) (hp : Zjf p evs) (hl : evs.length ≤ 1000) (hv : (∃ g c,v = .slice (some ⟨g,0,none⟩) evs.length c ∧ W.heap.size ≤ g ∧ ∀ j u,(Qu evs)[j]? = some u → W1.cell? ⟨g,j,none⟩ = some u) ∨ (v = .slice none 0 0 ∧ evs = [])) :
  Calls Ydz 10 #[Pt px,v] W1 fun e w' => ∃ a c,e = .returned (.slice a (p.play evs).2.length c) ∧ Yy w' a (Y1 (p.play evs).2) ∧ Zb No W0 w' := by
 obtain ⟨own,l,h1,h2,h3⟩ := h
 have key : ∀ own2 : Nat → Nat,Ext W0 (fun _ => 19) own2 → ∀ (r : Pol × List Int) (e : Ending) (w' : World),Zkh own2 W1 px l r e w' → ∃ a c,e = .returned (.slice a r.2.length c) ∧ Yy w' a (Y1 r.2) ∧ Zb No W0 w' := fun own2 hE r e w' q => by
  obtain ⟨u,own',q1,q2,q3,q4,q5,q6⟩ := q
  have hO : Zb No W0 w' := (h2.trans ho).then q4 (fun i hi e => by
   have e' : 20 ≤ own2 i ∧ own2 i < 40 := e
   have e2 : own2 i = 19 := hE i hi
   omega)
  rcases q5.form with ⟨hu,h0,hx⟩ | ⟨g,cap,hu,_,_,_,_,_,hc⟩
  ·exact ⟨none,0,by rw [q1,hu,h0],fun j u hu => by rw [hx] at hu; simp at hu,hO⟩
  ·exact ⟨_,_,by rw [q1,hu],fun j u hu => ⟨g,rfl,hc j u hu⟩,hO⟩
 rcases hv with ⟨g,c,rfl,hg,hc⟩ | ⟨rfl,rfl⟩
 ·have hE : Ext W own (ext own W.heap.size 12) := Jp W own 12
  refine (Zvp (h3.kept hE ho (fun _ _ _ _ h => h)) hp (cap:=c) (by omega) hc (.inl (by rw [Jz hg]; decide))).mono (key _ (h1.trans h2.size hE) _)
 ·exact (Zvq (h3.kept (Ext.refl _ _) ho (fun _ _ _ _ h => h))).mono (key _ h1 (p,[]))
section
attribute [local go_sem] Yd5 Zg Zf
theorem Zv6 {x n c : Nat} {a : Option Addr} : Calls Ydz 7 #[Pt x,.slice a n c,.int .i64 0] w fun e w' => e = .returned (.int .i64 0) ∧ w = w' := by
 go_enter Tryz.func7,Tryz.ntmps7
 go_wp2
 refine wp_loop_rounds 1 ?_
 rw [rounds_succ]
 go_wp2
 go_ret
 exact ⟨rfl,rfl⟩
theorem Xb.runAll {W : World} {x : Nat} (h : Xb ps w x v s 0 W) (hf : Zb0 ps) (l : List Int) (hl : l.length ≤ 300) {a : Option Addr} (hp : Zjd w a l) (cap : Nat) :
  Calls Ydz 7 #[Pt x,.slice a l.length cap,.int .i64 (l.length : Int)] W fun e w' => (∃ k,e = .returned (.int .i64 k)) ∧ Xb ps w x v (Qt l s 0 l.length).1 l.length w' := by
 by_cases h0 : l.length = 0
 ·have z := Zv6 (x:=x) (n:=l.length) (c:=cap) (a:=a) (w:=W)
  have e1 : ((l.length : Nat) : Int) = 0 := by omega
  have e2 : (Qt l s 0 l.length).1 = s := by rw [h0]; rfl
  rw [e1,e2,h0]
  rw [h0] at z
  exact z.mono fun e w' q => ⟨⟨_,q.1⟩,by rw [← q.2]; exact h⟩
 ·have z := h.runOld hf l (by omega) hp (by omega) (by omega) cap
  rwa [Nat.zero_add] at z
def Znf (q : Bool × Int) (o : Op) : Bool × Int := ((q.1 && decide (0 ≤ o.w)) && decide (o.w ≤ 1000),if ((q.1 && decide (0 ≤ o.w)) && decide (o.w ≤ 1000)) = true then q.2 + o.w else q.2)
def Qv (l : List Op) : Bool × Int := l.foldl Znf (true,0)
theorem Zk5 (l : List Op) (o : Op) : Qv (l ++ [o]) = Znf (Qv l) o := by unfold Qv; rw [List.foldl_append]; rfl
theorem Zjt : ∀ n (l : List Op),l.length = n → (0 ≤ (Qv l).2 ∧ (Qv l).2 ≤ 1000 * (n : Int)) ∧ ((Qv l).1 = true → (Qv l).2 = (Zds l : Int))
 | 0,l,h => by
  obtain rfl := List.length_eq_zero_iff.1 h
  exact ⟨⟨Int.le_refl _,Int.le_refl _⟩,fun _ => rfl⟩
 | n + 1,l,h => by
  have hne : l ≠ [] := fun e => by rw [e] at h; cases h
  have hl := List.dropLast_concat_getLast hne
  have ih := Zjt n l.dropLast (by rw [List.length_dropLast]; omega)
  rw [← hl,Zk5]
  have hw : Zds (l.dropLast ++ [l.getLast hne]) = Zds l.dropLast + (l.getLast hne).w.toNat := by unfold Zds; simp
  rw [hw]
  generalize l.getLast hne = o at *
  generalize Qv l.dropLast = q at *
  unfold Znf
  by_cases hb : ((q.1 && decide (0 ≤ o.w)) && decide (o.w ≤ 1000)) = true
  ·simp only [hb,if_true]
   simp only [Bool.and_eq_true,decide_eq_true_eq] at hb
   have i2 := ih.2 hb.1.1
   refine ⟨by omega,fun _ => ?_⟩
   omega
  ·rw [if_neg hb]
   exact ⟨by omega,fun h => absurd h hb⟩
theorem Zri (ps : List (List Op)) : Zg1 ps = Zds ps.flatten := by
 induction ps with
 | nil => rfl
 | cons a l ih => unfold Zg1 Zds at *; simp only [Yec,Yd6,Yed,Yea,List.sum_append,ih]
theorem Zrh (ps : List (List Op)) : Ji ps = ps.flatten.length := by
 induction ps with
 | nil => rfl
 | cons a l ih => unfold Ji at *; simp only [Yec,Yd6,Yed,Yd4,ih]
theorem Zvh (ps : List (List Op)) : Ji ps = K8 (fun k => (ps.getD k []).length) ps.length := by
 have key : ∀ n,n ≤ ps.length → Ji (ps.take n) = K8 (fun k => (ps.getD k []).length) n := by
  intro n
  induction n with
  | zero => intro _; rfl
  | succ n ih =>
   intro hn
   have hg : ps[n]? = some ps[n] := Yd0 (by omega)
   rw [Yd7,hg]
   show Ji (ps.take n ++ [ps[n]]) = K8 _ n + (ps.getD n []).length
   rw [← ih (by omega),Yd1,hg]
   unfold Ji
   simp only [Yea,Yec,List.map_nil,List.sum_append,Yd6,List.sum_nil,Option.getD_some,Nat.add_zero]
 have := key ps.length (Nat.le_refl _)
 rwa [Yd3] at this
theorem Zpg : ∀ {l : List Nat} {x : Nat},x ∈ l → x ≤ l.sum
 | a :: l,x,h => by
  rw [Yd6]
  rcases List.mem_cons.1 h with rfl | h
  ·omega
  ·have := Zpg h
   omega
theorem Yan (h1 : ps.length ≤ 6) (h2 : Ji ps ≤ 60) : Zb0 ps := by
 refine ⟨h2,h1,fun p hp => ?_⟩
 have : p.length ≤ Ji ps := by
  unfold Ji
  exact Zpg (List.mem_map.2 ⟨p,hp,rfl⟩)
 omega
structure Zs9 (w : World) (a a3 : Option Addr) (cp : Nat) (ps : List (List Op)) (l : List Int) : Prop where
 err : Err.ErrType w
 progs : Jh w a ps
 cap : ps.length ≤ cp
 len : ps.length ≤ 140737488351232
 each : ∀ p ∈ ps,p.length ≤ 140737488351232
 keys : ∀ p ∈ ps,∀ o ∈ p,I64 o.k
 picks : Zjd w a3 l
def okV (c : Cfg) (ps : List (List Op)) : Bool := decide (ps.length ≤ 6) && decide (Ji ps ≤ 60) && decide (c.cap ≤ 512)
theorem Jh.lens {a : Option Addr} (h : Jh w a ps) : Zmq w a ps.length (fun k => (ps.getD k []).length) := fun k hk => by
 have hg : ps[k]? = some ps[k] := Yd0 hk
 obtain ⟨ad,v,h1,h2,h3⟩ := h k _ hg
 obtain ⟨a2,c2,rfl,_⟩ := h3.form
 have e : (ps.getD k []).length = ps[k].length := by rw [Yd1,hg]; rfl
 exact ⟨ad,a2,c2,h1,by rw [h2]; show some (Value.slice a2 _ c2) = some (Value.slice a2 (ps.getD k []).length c2); rw [e]⟩
theorem Zue {a : Option Addr} (c : Cfg) (hp : Jh w a ps) (hn : ps.length ≤ 140737488351232) (he : ∀ p ∈ ps,p.length ≤ 140737488351232) :
  Calls Ydz 5 #[Zb5 c,.slice a ps.length cp] w fun e w' => e = .returned (.bool (okV c ps)) ∧ Zb No w w' := by
 refine (Zxt c hn (fun k hk => ?_) hp.lens).mono fun e w' q => ⟨?_,by rw [q.2]; exact (Zb.refl No w).alloc _⟩
 ·have hg : ps[k]? = some ps[k] := Yd0 hk
  show (ps.getD k []).length ≤ _
  rw [Yd1,hg]
  exact he _ (List.getElem_mem hk)
 ·rw [q.1]
  unfold okV
  by_cases h6 : ps.length ≤ 6
  ·rw [if_pos (by omega),Zvh]
  ·rw [decide_eq_false h6]
   rfl
theorem Zi6 {a : Option Addr} {c3 : Nat} (c : Cfg) (h : Zs9 w a a3 cp ps l) (hb : okV c ps = false ∨ (okV c ps = true ∧ 300 < l.length)) :
  Calls Ydz 3 #[Zb5 c,.slice a ps.length cp,.slice a3 l.length c3] w fun e w' => e = .returned (.bool true) ∧ Zb No w w' := by
 have hO : Zb No w (w.alloc (J2 c)) := (Zb.refl No w).alloc _
 have H4 := Ydy (Zk7 (Zd h.err hO (fun h => h)))
 have HO := Ydy hO
 have HK : Hid (∀ W,Zb No (w.alloc (J2 c)) W → Zst W w.heap.size c) := Ydy (fun W hW => by
  have b := hW.kept (Zh w (J2 c)) (fun h => h)
  exact ⟨Za b rfl,Za b rfl,Za b rfl,Za b rfl,Za b rfl,Za b rfl⟩)
 have H5 : Hid (∀ W,Zb No (w.alloc (J2 c)) W → Calls Ydz 5 #[Zb5 c,.slice a ps.length cp] W fun e w' => e = .returned (.bool (okV c ps)) ∧ Zb No W w') := Ydy (fun W hW => Zue c (h.progs.no (hO.trans hW)) h.len h.each)
 clear h hO
 unfold Zb5 at H5 ⊢
 unfold J2 at H4 HO HK H5
 generalize ps.length = n at *
 generalize l.length = nl at *
 generalize okV c ps = ok at *
 rcases hb with rfl | ⟨rfl,hl⟩
 ·go_enter Yef,Yee
  go_wp2_with (first | (go_at_call 4; refine (H4.out).mono ?_; rintro e w1 ⟨rfl,h1⟩; have H1 := Ydy h1; obtain ⟨k0,k1,k2,k3,k4,k5⟩ := HK.out _ h1; clear h1) | (go_at_call 5; refine (H5.out w1 H1.out).mono ?_; rintro e w2 ⟨rfl,h2⟩; have H2 := Ydy (HO.out.trans (H1.out.trans h2)); clear h2))
  refine bodyPost_ret (v:=.bool true) (by simp [results,Yd2,go_sem]) rfl ?_
  exact ⟨rfl,H2.out⟩
 ·have hd : decide (300 < nl) = true := decide_eq_true hl
  go_enter Yef,Yee
  go_wp2_with (first | (go_at_call 4; refine (H4.out).mono ?_; rintro e w1 ⟨rfl,h1⟩; have H1 := Ydy h1; obtain ⟨k0,k1,k2,k3,k4,k5⟩ := HK.out _ h1; clear h1) | (go_at_call 5; refine (H5.out w1 H1.out).mono ?_; rintro e w2 ⟨rfl,h2⟩; have H2 := Ydy (HO.out.trans (H1.out.trans h2)); clear h2))
  refine bodyPost_ret (v:=.bool true) (by simp [results,Yd2,go_sem]) rfl ?_
  exact ⟨rfl,H2.out⟩
structure Zz7 (c : Cfg) (ps : List (List Op)) (s : St) : Prop where
 nod : (Vf c s).Nodup
 out : (Qb (Z8 s.recs)).length ≤ (Vf c s).length
 fit : (Qv ps.flatten).1 = true → (Qv ps.flatten).2 ≤ c.cap → Vf c s = [] ∧ Zch s.recs = true
 len : (Vf c s).length ≤ 300
theorem Path.out (h : Path c ps s) (hf : Zb0 ps) : Zz7 c ps s := by
 obtain ⟨l1,l2,l3⟩ := h.law
 refine ⟨l1,l2,fun hb hs => l3 ?_,h.gone_len hf⟩
 obtain ⟨⟨f1,f2⟩,f3⟩ := Zjt _ ps.flatten rfl
 have f4 := f3 hb
 rw [Zri]
 unfold Qg
 split <;> omega
theorem Zte (a : Addr) (i j : Nat) : (a.add i).add j = a.add (i + j) := Go.Deep.add_add a i j
theorem Zzo {ad : Addr} {l : List Op} (h : ∀ j u,(Jr l)[j]? = some u → w.cell? (ad.add j) = some u) {k : Nat} {o : Op} (ho : l[k]? = some o) : w.cell? (ad.add (k * 4 + 3)) = some (.int .i64 o.w) := by
 have := Zd5 opF 4 (fun _ => rfl) l ho 3 (by omega)
 exact h _ _ (this.trans rfl)
theorem Zh9 (h : ps[i]? = some p) : (ps.take (i + 1)).flatten = (ps.take i).flatten ++ p := by
 rw [Yd7,h]
 simp
theorem Zuh (h : ps[i]? = some p) (k : Nat) : ((ps.take i).flatten ++ p.take k).length ≤ ps.flatten.length := by
 have h1 : ps.flatten = (ps.take (i + 1)).flatten ++ (ps.drop (i + 1)).flatten := by rw [← List.flatten_append,List.take_append_drop]
 rw [h1,Zh9 h]
 simp only [Yd4,List.length_take]
 omega
theorem Zwr {a : Option Addr} {c3 : Nat} (c : Cfg) (h : Zs9 w a a3 cp ps l) (hb : okV c ps = true) (hl : l.length ≤ 300) :
  Calls Ydz 3 #[Zb5 c,.slice a ps.length cp,.slice a3 l.length c3] w fun e w' => e = .returned (.bool true) ∧ Zb No w w' := by
 have hO : Zb No w (w.alloc (J2 c)) := (Zb.refl No w).alloc _
 have hok : ps.length ≤ 6 ∧ Ji ps ≤ 60 ∧ c.cap ≤ 512 := by
  unfold okV at hb
  simp only [Bool.and_eq_true,decide_eq_true_eq] at hb
  exact ⟨hb.1.1,hb.1.2,hb.2⟩
 have hf : Zb0 ps := Yan hok.1 hok.2.1
 have p0 : Path c ps (Xh c ps) := Path.new hok.2.2 hf
 obtain ⟨s1,hs1⟩ : ∃ s,(Qt l (Xh c ps) 0 l.length).1 = s := ⟨_,rfl⟩
 have p1 : Path c ps s1 := by rw [← hs1]; exact p0.run hf h.keys _ _ _
 obtain ⟨s2,hs2⟩ : ∃ s,(Qt (Jt ps.length) s1 0 100000).1 = s := ⟨_,rfl⟩
 have p2 : Path c ps s2 := by rw [← hs2]; exact p1.run hf h.keys _ _ _
 have H4 := Ydy (Zk7 (Zd h.err hO (fun h => h)))
 have HO := Ydy hO
 have HK : Hid (∀ W,Zb No (w.alloc (J2 c)) W → Zst W w.heap.size c) := Ydy (fun W hW => by
  have b := hW.kept (Zh w (J2 c)) (fun h => h)
  exact ⟨Za b rfl,Za b rfl,Za b rfl,Za b rfl,Za b rfl,Za b rfl⟩)
 have H5 : Hid (∀ W,Zb No (w.alloc (J2 c)) W → Calls Ydz 5 #[Zb5 c,.slice a ps.length cp] W fun e w' => e = .returned (.bool true) ∧ Zb No W w') := Ydy (fun W hW => (Zue c (h.progs.no (hO.trans hW)) h.len h.each).mono fun e w' q => ⟨by rw [q.1,hb],q.2⟩)
 have H6 : Hid (∀ W,Zb No (w.alloc (J2 c)) W → Calls Ydz 6 #[Zb5 c,.slice a ps.length cp] W fun e w' => ∃ x v,e = .returned (Pt x) ∧ Xb ps (w.alloc (J2 c)) x v (Xh c ps) 0 w') := Ydy (fun W hW => Xb.new c hf hok.2.2 (h.progs.no (hO.trans hW)) h.cap (Zd h.err (hO.trans hW) (fun h => h)) hW)
 have H7 : Hid (∀ x v W,Xb ps (w.alloc (J2 c)) x v (Xh c ps) 0 W → Calls Ydz 7 #[Pt x,.slice a3 l.length c3,.int .i64 (l.length : Int)] W fun e w' => (∃ k,e = .returned (.int .i64 k)) ∧ Xb ps (w.alloc (J2 c)) x v s1 l.length w') := Ydy (fun x v W hR => by
  have := hR.runAll hf l hl (fun j z hz => by obtain ⟨ad,e1,e2⟩ := h.picks j z hz; exact ⟨ad,e1,Zd e2 hO (fun h => h)⟩) c3
  rwa [hs1] at this)
 have H8 : Hid (∀ x v W,Xb ps (w.alloc (J2 c)) x v s1 l.length W → Calls Ydz 8 #[Pt x,.int .i64 (ps.length : Int)] W fun e w' => e = .returned (.bool true) ∧ Xb ps (w.alloc (J2 c)) x v s2 (l.length + 100000) w') := Ydy (fun x v W hR => by
  have := hR.end_ hf (by omega) (by have := p1.cost; omega) p1.len
  rwa [hs2] at this)
 have H9 : Hid (∀ W,Calls Ydz 9 #[.int .i64 c.cap,.int .i64 c.seed] W fun e w' => ∃ px,e = .returned (Pt px) ∧ Zmt W px (Xn (Qg c.cap) c.seed) w' ∧ Zb No W w') := Ydy (fun W => Zmt.new hok.2.2 W)
 have hrl := p2.recs_len hf
 have H11 : Hid (∀ x v W0 W px,Xb ps (w.alloc (J2 c)) x v s2 (l.length + 100000) W0 → Zmt W0 px (Xn (Qg c.cap) c.seed) W → Zb No W0 W → Calls Ydz 11 #[Pt x] W fun e w' => ∃ ev,e = .returned ev ∧ Calls Ydz 10 #[Pt px,ev] w' fun e w'' => ∃ ga gc,e = .returned (.slice ga (Vf c s2).length gc) ∧ Yy w'' ga (Y1 (Vf c s2)) ∧ Xb ps (w.alloc (J2 c)) x v s2 (l.length + 100000) w'') := Ydy (fun x v W0 W px hR hP hO => ((hR.no hO).events hf).mono fun e w' q => by
  obtain ⟨q1,q2,q3⟩ := q
  rcases q1 with ⟨g,cc,rfl,hg,hc⟩ | ⟨rfl,he⟩
  ·exact ⟨_,rfl,(hP.play q3 (p2.play hf) hrl.2 (.inl ⟨g,cc,rfl,hg,hc⟩)).mono fun e w'' z => by
    obtain ⟨ga,gc,z1,z2,z3⟩ := z
    exact ⟨ga,gc,z1,z2,hR.no z3⟩⟩
  ·exact ⟨_,rfl,(hP.play q3 (p2.play hf) hrl.2 (.inr ⟨rfl,he⟩)).mono fun e w'' z => by
    obtain ⟨ga,gc,z1,z2,z3⟩ := z
    exact ⟨ga,gc,z1,z2,hR.no z3⟩⟩)
 have H14 : Hid (∀ x v W,Xb ps (w.alloc (J2 c)) x v s2 (l.length + 100000) W → Calls Ydz 14 #[Pt x] W fun e w' => ∃ a c',e = .returned (.slice a s2.recs.length c') ∧ Yy w' a (Z5 s2.recs) ∧ Xb ps (w.alloc (J2 c)) x v s2 (l.length + 100000) w' ∧ Zb No W w') := Ydy (fun x v W hR => hR.records hf)
 have hrt : J4 s2.recs = true := p2.a.r.right
 have H13 : Hid (∀ a c' W,Yy W a (Z5 s2.recs) → Calls Ydz 13 #[.slice a s2.recs.length c'] W fun e w' => ∃ a2 c2,e = .returned (.slice a2 (Z8 s2.recs).length c2) ∧ Yy w' a2 ((Z8 s2.recs).flatMap Vd) ∧ Zb No W w') := Ydy (fun a c' W hs => (Zb6 (c:=c') s2.recs hs hrl.1 hrt (fun r hr => (p2.k.r r hr).2) (fun _ => 19) 14).mono fun e w' q => by
  obtain ⟨u,rfl,hG⟩ := q
  obtain ⟨a2,c2,rfl,hs⟩ := hG.src
  exact ⟨a2,c2,rfl,hs,hG.only⟩)
 have H12 : Hid (∀ a c' W,Yy W a ((Z8 s2.recs).flatMap Vd) → Calls Ydz 12 #[.slice a (Z8 s2.recs).length c'] W fun e w' => ∃ a2 c2,e = .returned (.slice a2 (Qb (Z8 s2.recs)).length c2) ∧ Zb No W w') := Ydy (fun a c' W hs => (Zfi (c:=c') (Z8 s2.recs) hs (Nat.le_trans (Zfg _) hrl.1) (fun _ => 19) 14).mono fun e w' q => by
  obtain ⟨u,rfl,hG⟩ := q
  obtain ⟨a2,c2,rfl,_⟩ := hG.src
  exact ⟨a2,c2,rfl,hG.only⟩)
 have H15 : Hid (Zch s2.recs = true → ∀ a c' W,Yy W a (Z5 s2.recs) → Calls Ydz 15 #[.slice a s2.recs.length c'] W fun e w' => e = .returned (.bool true) ∧ Zb No W w') := Ydy (fun hp a c' W hs => Zot (c:=c') s2.recs hs hrl.1 hp p2.k.r)
 have HT := Ydy (p2.out hf)
 have HPS : Hid (Jh (w.alloc (J2 c)) a ps) := Ydy (h.progs.no hO)
 have HN60 : Hid (ps.flatten.length ≤ 60) := Ydy (by rw [← Zrh]; exact hok.2.1)
 have hn6 := hok.1
 clear h hO hok hf p0 p1 p2 hs1 hs2 hrl hrt hb
 unfold Zb5 at H5 H6 ⊢
 unfold J2 at *
 generalize l.length = nl at *
 generalize hn : ps.length = n at *
 have HN := Ydy hn
 clear hn
 generalize hng : (Vf c s2).length = ng at *
 have HNG := Ydy hng
 clear hng
 generalize hno : (Qb (Z8 s2.recs)).length = no at *
 have HNO := Ydy hno
 clear hno
 generalize (Z8 s2.recs).length = nc at *
 generalize s2.recs.length = nr at *
 have d300 : decide (300 < nl) = false := decide_eq_false (by omega)
 go_enter Yef,Yee
 go_wp2_with (first
  | (go_at_call 4; refine (H4.out).mono ?_; rintro e w1 ⟨rfl,h1⟩; have H1 := Ydy h1; obtain ⟨k0,k1,k2,k3,k4,k5⟩ := HK.out _ h1; clear h1)
  | (go_at_call 5; refine (H5.out w1 H1.out).mono ?_; rintro e w2 ⟨rfl,h2⟩; have H2 := Ydy (H1.out.trans h2); obtain ⟨k0,k1,k2,k3,k4,k5⟩ := HK.out _ H2.out; clear h2)
  | (go_at_call 6; refine (H6.out w2 H2.out).mono ?_; rintro e w3 ⟨x,v,rfl,h3⟩; have H3 := Ydy h3; clear h3)
  | (go_at_call 7; refine (H7.out x v w3 H3.out).mono ?_; rintro e w4 ⟨⟨kk,rfl⟩,h4⟩; have H4' := Ydy h4; clear h4)
  | (go_at_call 8; refine (H8.out x v w4 H4'.out).mono ?_; rintro e w5 ⟨rfl,h5⟩; have H5' := Ydy h5; obtain ⟨k0,k1,k2,k3,k4,k5⟩ := HK.out _ h5.only; clear h5)
  | (go_at_call 9; refine (H9.out w5).mono ?_; rintro e w6 ⟨px,rfl,hp6,h6⟩; have HP6 := Ydy hp6; have H6' := Ydy h6; clear hp6 h6)
  | (go_at_call 11; refine (H11.out x v w5 w6 px H5'.out HP6.out H6'.out).mono ?_; rintro e w7 ⟨ev,rfl,h7⟩; have H7' := Ydy h7; clear h7)
  | (go_at_call 10; refine (H7'.out).mono ?_; rintro e w8 ⟨ga,gc,rfl,hs8,h8⟩; have H8' := Ydy h8; have HS8 := Ydy hs8; clear hs8 h8)
  | (go_at_call 14; refine (H14.out x v w8 H8'.out).mono ?_; rintro e w9 ⟨a9,c9,rfl,hs9,h9,ho9⟩; have H9' := Ydy h9; have HS9 := Ydy hs9; have HO9 := Ydy ho9; clear hs9 h9 ho9)
  | (go_at_call 13; refine (H13.out a9 c9 w9 HS9.out).mono ?_; rintro e w10 ⟨a10,c10,rfl,hs10,h10⟩; have H10 := Ydy (HO9.out.trans h10); have HR10 := Ydy (H9'.out.no h10); have HS10 := Ydy hs10; clear hs10 h10)
  | (go_at_call 12; refine (H12.out a10 c10 w10 HS10.out).mono ?_; rintro e w11 ⟨a11,c11,rfl,h11⟩; have HS11 := Ydy (HS8.out.no (H10.out.trans h11)); have HR11 := Ydy (HR10.out.no h11); clear h11))
 have k0 := (HK.out _ HR11.out.only).1
 have HP11 := Ydy (HPS.out.no HR11.out.only)
 clear H4 H5 H6 H7 H8 H9 H11 H13 H12 H1 H2 H3 H4' H5' HP6 H6' H7' H8' HS8 H9' HS9 HO9 H10 HR10 HS10 HPS k1 k2 k3 k4 k5
 have HFW : Hid (∀ (f : Bool) (s : Int),Qv [] = (f,s) → f = true ∧ s = 0) := Ydy (fun f s h => by cases h; exact ⟨rfl,rfl⟩)
 go_loopw [13,14,15] (fun s f i wr => ∃ k : Nat,k ≤ n ∧ i = .int .i64 (k : Int) ∧ f = .bool (Qv (ps.take k).flatten).1 ∧ s = .int .i64 (Qv (ps.take k).flatten).2 ∧ wr = w11) (fun _ _ i _ => n - (intOf i).toNat)
 case atStart => exact ⟨0,Nat.zero_le _,rfl,rfl,rfl,rfl⟩
 case round =>
  obtain ⟨i,hi,rfl,rfl,rfl,rfl⟩ := hrel
  by_cases hlt : i < n
  ·have hkb : decide ((i : Int) < (n : Int)) = true := decide_eq_true (by omega)
   have hk0 : (0 : Int) ≤ (i : Int) := by omega
   have hk1 : (i : Int) < (n : Int) := by omega
   have hil : i < ps.length := by have := HN.out; omega
   obtain ⟨p,hp⟩ : ∃ p,ps[i]? = some p := ⟨_,Yd0 hil⟩
   obtain ⟨ad,v2,rfl,hcell,hPV⟩ := HP11.out i p hp
   have HT1 : Hid ((ps.take (i + 1)).flatten = (ps.take i).flatten ++ p) := Ydy (Zh9 hp)
   have HPRE : Hid (∀ k,((ps.take i).flatten ++ p.take k).length ≤ 60) := Ydy (fun k => Nat.le_trans (Zuh hp k) HN60.out)
   obtain ⟨a2,c2,hv2,_⟩ := hPV.form
   have HPV := Ydy hPV
   subst hv2
   clear hil hp hPV
   have hlp60 : p.length ≤ 60 := by have := HPRE.out p.length; rw [Yd4,Yd3] at this; omega
   generalize (ps.take i).flatten = D at *
   have hD0 : Qv D = Qv (D ++ p.take 0) := by rw [List.take_zero,List.append_nil]
   rw [hD0]
   clear hD0
   generalize hlp : p.length = lp at *
   have HLP := Ydy hlp
   clear hlp
   go_wp2
   go_loopw [13,14,16] (fun s f i wz => ∃ k : Nat,k ≤ lp ∧ i = .int .i64 (k : Int) ∧ f = .bool (Qv (D ++ p.take k)).1 ∧ s = .int .i64 (Qv (D ++ p.take k)).2 ∧ wz = wr) (fun _ _ i _ => lp - (intOf i).toNat)
   case atStart => exact ⟨0,Nat.zero_le _,rfl,rfl,rfl,rfl⟩
   case round =>
    obtain ⟨j,hj,rfl,rfl,rfl,rfl⟩ := hrel
    by_cases hlt2 : j < lp
    ·have hjb : decide ((j : Int) < (lp : Int)) = true := decide_eq_true (by omega)
     have hj0 : (0 : Int) ≤ (j : Int) := by omega
     have hj1 : (j : Int) < (lp : Int) := by omega
     have hjl : j < p.length := by have := HLP.out; omega
     obtain ⟨o,ho⟩ : ∃ o,p[j]? = some o := ⟨_,Yd0 hjl⟩
     have hSN : Qv (D ++ p.take (j + 1)) = Znf (Qv (D ++ p.take j)) o := by
      rw [Yd7,ho,← Zk5]
      simp
     have hFA := (Zjt _ (D ++ p.take j) rfl).1
     have hPRj := HPRE.out j
     obtain ⟨ad2,e2,hw4⟩ : ∃ ad2,a2 = some ad2 ∧ wr.cell? (ad2.add (j * 4 + 3)) = some (.int .i64 o.w) := by
      rcases HPV.out with ⟨_,hnil⟩ | ⟨ad2,c5,hv5,_,hc5⟩
      ·rw [hnil] at ho; simp at ho
      ·cases hv5
       exact ⟨ad2,rfl,Zzo hc5 ho⟩
     subst e2
     have hw5 : wr.cell? ⟨(ad2.add (j * 4)).block,(ad2.add (j * 4)).off + 3,none⟩ = some (.int .i64 o.w) := by rw [← Zte] at hw4; exact hw4
     generalize hfs : Qv (D ++ p.take j) = fs at *
     obtain ⟨f,s⟩ := fs
     have NF : Hid (Value.bool (Znf (f,s) o).1 = .bool (Qv (D ++ p.take (j + 1))).1 ∧ Value.int .i64 (Znf (f,s) o).2 = .int .i64 (Qv (D ++ p.take (j + 1))).2) := Ydy (by rw [hSN]; exact ⟨rfl,rfl⟩)
     have hs0 : 0 ≤ s := hFA.1
     have hs1 : s ≤ 60000 := by have := hFA.2; have : s ≤ 1000 * (((D ++ p.take j).length : Nat) : Int) := this; omega
     unfold Znf at NF
     simp only at NF ⊢
     generalize o.w = ow at *
     clear hFA hPRj hSN hfs ho hjl
     by_cases h1 : 0 ≤ ow
     ·by_cases h2 : ow ≤ 1000
      ·have d1 : decide (0 ≤ ow) = true := decide_eq_true h1
       have d2 : decide (ow ≤ 1000) = true := decide_eq_true h2
       have hwr : IntKind.i64.wrap (s + ow) = s + ow := IntWalk.i64_in _ (by omega)
       rw [d1,d2] at NF
       clear h1 h2 hs0 hs1
       cases f
       ·have NG : Hid (Value.bool false = .bool (Qv (D ++ p.take (j + 1))).1 ∧ Value.int .i64 s = .int .i64 (Qv (D ++ p.take (j + 1))).2) := Ydy NF.out
        clear NF
        go_wp2
        go_roundw
        case rel => exact ⟨j + 1,by omega,by go_num,NG.out.1,NG.out.2,by first | rfl | trivial⟩
        case measure => simp [intOf]; omega
       ·have NG : Hid (Value.bool true = .bool (Qv (D ++ p.take (j + 1))).1 ∧ Value.int .i64 (s + ow) = .int .i64 (Qv (D ++ p.take (j + 1))).2) := Ydy NF.out
        clear NF
        go_wp2
        go_roundw
        case rel => exact ⟨j + 1,by omega,by go_num,NG.out.1,NG.out.2,by first | rfl | trivial⟩
        case measure => simp [intOf]; omega
      ·have d1 : decide (0 ≤ ow) = true := decide_eq_true h1
       have d2 : decide (ow ≤ 1000) = false := decide_eq_false h2
       rw [d1,d2] at NF
       clear h1 h2 hs0 hs1
       cases f
       ·have NG : Hid (Value.bool false = .bool (Qv (D ++ p.take (j + 1))).1 ∧ Value.int .i64 s = .int .i64 (Qv (D ++ p.take (j + 1))).2) := Ydy NF.out
        clear NF
        go_wp2
        go_roundw
        case rel => exact ⟨j + 1,by omega,by go_num,NG.out.1,NG.out.2,by first | rfl | trivial⟩
        case measure => simp [intOf]; omega
       ·have NG : Hid (Value.bool false = .bool (Qv (D ++ p.take (j + 1))).1 ∧ Value.int .i64 s = .int .i64 (Qv (D ++ p.take (j + 1))).2) := Ydy NF.out
        clear NF
        go_wp2
        go_roundw
        case rel => exact ⟨j + 1,by omega,by go_num,NG.out.1,NG.out.2,by first | rfl | trivial⟩
        case measure => simp [intOf]; omega
     ·have d1 : decide (0 ≤ ow) = false := decide_eq_false h1
      rw [d1] at NF
      clear h1 hs0 hs1
      cases f
      ·have NG : Hid (Value.bool false = .bool (Qv (D ++ p.take (j + 1))).1 ∧ Value.int .i64 s = .int .i64 (Qv (D ++ p.take (j + 1))).2) := Ydy NF.out
       clear NF
       go_wp2
       go_roundw
       case rel => exact ⟨j + 1,by omega,by go_num,NG.out.1,NG.out.2,by first | rfl | trivial⟩
       case measure => simp [intOf]; omega
      ·have NG : Hid (Value.bool false = .bool (Qv (D ++ p.take (j + 1))).1 ∧ Value.int .i64 s = .int .i64 (Qv (D ++ p.take (j + 1))).2) := Ydy NF.out
       clear NF
       go_wp2
       go_roundw
       case rel => exact ⟨j + 1,by omega,by go_num,NG.out.1,NG.out.2,by first | rfl | trivial⟩
       case measure => simp [intOf]; omega
    ·have hjn : j = lp := by omega
     subst hjn
     have e1 : D ++ p.take j = (ps.take (i + 1)).flatten := by rw [HT1.out,← HLP.out,Yd3]
     rw [e1]
     clear e1
     go_wp2
     go_roundw
     case rel => exact ⟨i + 1,by omega,by go_num,rfl,rfl,by first | rfl | trivial⟩
     case measure => simp [intOf]; omega
  ·have hkn : i = n := by omega
   subst hkn
   have e1 : ps.take i = ps := by rw [← HN.out]; exact Yd3
   rw [e1]
   have HT1 : Hid ((Qv ps.flatten).1 = true → (Qv ps.flatten).2 ≤ c.cap → Vf c s2 = [] ∧ Zch s2.recs = true) := Ydy HT.out.fit
   have K0 := Ydy k0
   have HND := Ydy HT.out.nod
   have hle : no ≤ ng := by rw [← HNG.out,← HNO.out]; exact HT.out.out
   have hg3 : ng ≤ 300 := by rw [← HNG.out]; exact HT.out.len
   clear e1 HP11 HFW HN60 HN hlt hi k0 HT HNO
   generalize Qv ps.flatten = fv at *
   obtain ⟨f,s⟩ := fv
   simp only at HT1 ⊢
   generalize hwa : wr = wa at *
   clear hwa
   go_wp2
   go_loopw [18] (fun i wz => ∃ k : Nat,k ≤ ng ∧ i = .int .i64 (k : Int) ∧ Zb No wa wz) (fun i _ => ng - (intOf i).toNat)
   case atStart => exact ⟨0,Nat.zero_le _,rfl,Zb.refl _ _⟩
   case round =>
    obtain ⟨k,hk,rfl,hO⟩ := hrel
    by_cases hlt : k < ng
    ·have hkb : decide ((k : Int) < (ng : Int)) = true := decide_eq_true (by omega)
     have HO2 := Ydy hO
     clear hO
     go_wp2
     go_loopw [19] (fun i wz => ∃ j : Nat,j ≤ k ∧ i = .int .i64 (j : Int) ∧ Zb No wa wz) (fun i _ => k - (intOf i).toNat)
     case atStart => exact ⟨0,Nat.zero_le _,rfl,HO2.out⟩
     case round =>
      obtain ⟨j,hj,rfl,hO⟩ := hrel
      by_cases hlt2 : j < k
      ·have hjb : decide ((j : Int) < (k : Int)) = true := decide_eq_true (by omega)
       have hj0 : (0 : Int) ≤ (j : Int) := by omega
       have hj1 : (j : Int) < (ng : Int) := by omega
       have hk0 : (0 : Int) ≤ (k : Int) := by omega
       have hk1 : (k : Int) < (ng : Int) := by omega
       have hjl : j < (Vf c s2).length := by have := HNG.out; omega
       have hkl : k < (Vf c s2).length := by have := HNG.out; omega
       obtain ⟨zj,hzj⟩ : ∃ z,(Vf c s2)[j]? = some z := ⟨_,Yd0 hjl⟩
       obtain ⟨zk,hzk⟩ : ∃ z,(Vf c s2)[k]? = some z := ⟨_,Yd0 hkl⟩
       obtain ⟨g,hga,q0⟩ := Zcr HS11.out hzj
       obtain ⟨g',hga',p0⟩ := Zcr HS11.out hzk
       subst hga
       cases hga'
       replace q0 := Zd q0 hO (fun h => h)
       replace p0 := Zd p0 hO (fun h => h)
       have hne : (zj == zk) = false := beq_eq_false_iff_ne.2 (fun e => by
        subst e
        obtain ⟨_,h1⟩ := Yd8.1 hzj
        obtain ⟨_,h2⟩ := Yd8.1 hzk
        exact (List.pairwise_iff_getElem.1 HND.out) j k hjl hkl hlt2 (h1.trans h2.symm))
       have HO3 := Ydy (hO.drew)
       clear hO hjl hkl hzj hzk
       go_wp2
       go_region_held3 (fun w' => w'.cell? ⟨g,j,none⟩ = some (.int .i64 zj) ∧ w'.cell? ⟨g,k,none⟩ = some (.int .i64 zk)) (go_keep) (fail)
       go_wp2
       go_roundw
       case rel => exact ⟨j + 1,by omega,by go_num,HO3.out⟩
       case measure => simp [intOf]; omega
      ·have hjn : j = k := by omega
       subst hjn
       have HO3 := Ydy hO
       clear hO
       go_wp2
       go_roundw
       case rel => exact ⟨j + 1,by omega,by go_num,HO3.out⟩
       case measure => simp [intOf]; omega
    ·have hkn : k = ng := by omega
     subst hkn
     have kc := Zd K0.out hO (fun h => h)
     have HRW := Ydy (HR11.out.no hO)
     have HFIN : Hid (∀ wz,Zb No (w.alloc (.cells #[.int .i64 c.cap,.int .i64 c.seed,.int .i64 c.shards,.int .i64 c.stripes,.int .i64 c.ring,.int .i64 c.writes] 23)) wz → Zb No w wz) := Ydy (fun wz h => HO.out.trans h)
     have dle : decide (no ≤ k) = true := decide_eq_true hle
     clear hO K0
     by_cases hf : f = true
     ·subst hf
      by_cases hs : s ≤ c.cap
      ·obtain ⟨hg0,hpl⟩ := HT1.out rfl hs
       have hk0 : k = 0 := by rw [← HNG.out,hg0]; rfl
       have H15' := Ydy (H15.out hpl)
       have ds : decide (c.cap < s) = false := decide_eq_false (by omega)
       subst hk0
       clear hs hg0 hpl HT1 H15
       go_wp2_with (first
        | (go_at_call 14; refine (H14.out x v wr HRW.out).mono ?_; rintro e w12 ⟨a12,c12,rfl,hs12,h12,_⟩; have H12' := Ydy h12; have HS12 := Ydy hs12; clear hs12 h12)
        | (go_at_call 15; refine (H15'.out a12 c12 w12 HS12.out).mono ?_; rintro e w13 ⟨rfl,h13⟩; have H13' := Ydy (H12'.out.no h13); clear h13))
       refine bodyPost_ret (v:=.bool true) (by simp [results,Yd2,go_sem]) rfl ?_
       exact ⟨rfl,HFIN.out _ H13'.out.only⟩
      ·have ds : decide (c.cap < s) = true := decide_eq_true (by omega)
       clear hs HT1 H15 H14
       go_wp2
       refine bodyPost_ret (v:=.bool true) (by simp [results,Yd2,go_sem]) rfl ?_
       exact ⟨rfl,HFIN.out _ HRW.out.only⟩
     ·have hf' : f = false := by cases f <;> simp_all
      subst hf'
      clear hf HT1 H15 H14
      go_wp2
      refine bodyPost_ret (v:=.bool true) (by simp [results,Yd2,go_sem]) rfl ?_
      exact ⟨rfl,HFIN.out _ HRW.out.only⟩
end
end Go.Proofs.YtdkhbegheognnaaGreatDoor.W

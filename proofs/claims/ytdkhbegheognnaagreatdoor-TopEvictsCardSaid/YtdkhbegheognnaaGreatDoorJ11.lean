/- Part of the proof of TopEvicts, joined by a program of the session: Wrf Ce Cel Cec Cen Dqn Pon Mac Mad. -/
import Derived.Test.YtdkhbegheognnaaGreatDoorJ09
import Derived.Test.YtdkhbegheognnaaGreatDoorJ10
import Derived.Test.YtdkhbegheognnaaGreatDoorJ02
import Derived.Test.YtdkhbegheognnaaGreatDoorJ06
import Derived.Test.YtdkhbegheognnaaGreatDoorJ07
import Derived.Test.YtdkhbegheognnaaGreatDoorJ08
import Derived.Deep.RegionLaw
import Derived.Deep.RegionWith
namespace Go.Proofs.YtdkhbegheognnaaGreatDoor.W
open Go.RowKit Go.Maps
open _root_.Go.Proofs.Tryz renaming prog → Ydz, ntmps9 → Yei, func9 → Yej, ntmps178 → Yek, func178 → Yem
open _root_.Nat renaming le_refl → Yd0, lt_or_ge → Yd6, lt_of_lt_of_le → Yd7, ne_of_lt → Yed, le_of_lt → Yee, ne_of_gt → Yef
open _root_.List renaming getElem?_eq_none → Yd1, replicate → Yd2, getD_eq_getElem?_getD → Yd8, getElem?_cons_zero → Yeh, replicate_succ → Yel, flatten_cons → Yen, getElem?_set → Yeo
open Zb renaming refl → Yd3, setCell → Yd5, alloc → Yea, drewN → Yeb, drew → Yec
open Ext renaming refl → Yd4
open _root_.Go.World renaming setCell_drew → Yd9, frozen?_alloc_past → Yeg, drew → Yep
set_option maxHeartbeats 4000000
set_option maxRecDepth 100000
variable {w w1 w' : World}
variable {x m n k i : Nat}
variable {a0 a1 v : Value}
variable {H : List (Int × Bool)}
variable {own' : Nat → Nat}
variable {S : Nat → Prop}
variable {a : Int}
variable {rs : List Y8}
variable {t : Th}
variable {s : St}
section
attribute [local go_sem] Yd9 Zg Zf
def Zzq (w : World) (e : Ending) (w' : World) : Prop := ∃ b,e = .returned (.iface 278 (Pt b)) ∧ w'.cell? ⟨b,0,none⟩ = some (.int .i64 2) ∧ Zb No w w'
theorem Ybs {own : Nat → Nat} {b : Wr} (h : Kx own w x m n b) (h1 : b.q.length + b.res = b.size) : Calls Ydz 85 #[Pt x] w (Zzq w) := by
 have c0 : w.cell? ⟨x,0,none⟩ = some (.int .i64 (b.size : Int)) := Za h.block rfl
 have c3 : w.cell? ⟨x,3,none⟩ = some (.int .i64 (b.res : Int)) := Za h.block rfl
 have hr2 := h.room
 have HL : Hid (∀ W,Sm w W → Calls Ydz 130 #[Pt x] W fun e w' => e = .returned (.int .i64 (b.q.length : Int)) ∧ w' = W) := Ydy (fun W hs => Zmg (h.kept (S:=No) (own':=own) (fun _ _ => rfl) hs.only (fun _ _ _ h => h)))
 have hb : ((b.q.length : Int) + (b.res : Int) == (b.size : Int)) = true := beq_iff_eq.2 (by omega)
 have BA : Hid (∀ W,(binOp .add 3 (.int .i64 (b.q.length : Int)) (.int .i64 (b.res : Int))).run Ydz W = .ok (.int .i64 ((b.q.length : Int) + (b.res : Int))) W) := Ydy (Zo1 (b.q.length : Int) (b.res : Int) (by omega) (by omega))
 have IW2 := IntWalk.i64_in ((b.q.length : Int) + (b.res : Int)) (by omega)
 have WF : Hid (∀ W,Zb No w W → Calls Ydz 131 #[.int .i64 2,.int .i64 (b.q.length : Int),.int .i64 (b.res : Int)] W (Zzq w)) := Ydy (fun W hW => (Zhl 2 _ _ W (by decide)).mono (fun e w' ⟨h1,h2⟩ => ⟨W.heap.size,h1,by rw [h2]; exact Za (Zh W _) rfl,by rw [h2]; exact hW.alloc _⟩))
 clear h h1 hr2
 generalize (b.q.length : Int) = ql at *
 generalize (b.res : Int) = rs at *
 generalize (b.size : Int) = sz at *
 go_enter Tryz.func85,Tryz.ntmps85
 go_wp2
 go_quiet ((go_at_call 130; exact Calls.quiet_of_same (HL.out _ (Sm.drewN _ _))))
 have hs2 : Sm w (w.drewN nq) := ⟨rfl,rfl,rfl,rfl⟩
 generalize w.drewN nq = W at *
 have c3' := (hs2.cell _).trans c3
 have HS := Ydy hs2
 clear hs2 c0 c3 IW2 BA
 go_wp2
 go_region_with (first | (go_at_call 130; refine (HL.out _ (by first | exact HS.out | exact HS.out.trans (Sm.drewN _ _) | exact HS.out.trans ⟨rfl,rfl,rfl,rfl⟩)).mono ?_; rintro e w' ⟨rfl,rfl⟩) | (go_at_call 131; refine (WF.out _ (by first | exact HS.out.only | exact (HS.out.trans (Sm.drewN _ _)).only | exact (HS.out.trans ⟨rfl,rfl,rfl,rfl⟩).only)).mono ?_; rintro e w' ⟨fb,rfl,hf1,hf2⟩))
 all_goals
  go_wp2
  go_ret
  exact ⟨fb,rfl,hf1,hf2⟩
end
section
attribute [local go_sem] Yd9
def Zb2 (own : Nat → Nat) (x n : Nat) (a0 a1 : Value) (w w' : World) : Prop := ∃ own' v' xs',Ext w own own' ∧ Row own' 67 w' 183 5 v' (n + 1) xs' ∧ w'.heap[x]? = some (.cells #[a0,a1,v'] 137 (0,0)) ∧ Zb (fun b => b = x ∨ own b = 67) w w'
theorem Zcd (own : Nat → Nat) (x n : Nat) (a0 a1 v : Value) (xs : List Value) (d0 d1 d2 d3 d4 : Int) (w : World) (hb : w.heap[x]? = some (.cells #[a0,a1,v] 137 (0,0))) (hx : own x ≠ 67) (hR : Row own 67 w 183 5 v n xs) (hn : n ≤ 1000000) :
  Calls Ydz 81 #[.pointer (some ⟨x,0,none⟩),.agg #[.int .i64 d0,.int .i64 d1,.int .i64 d2,.int .i64 d3,.int .i64 d4]] w fun r w' => r = .returned (.tuple #[]) ∧ Zb2 own x n a0 a1 w w' := by
 have hxb := Ze hb
 have c2 : w.cell? ⟨x,2,none⟩ = some v := Za hb rfl
 have hxne : x ≠ w.heap.size := Yed hxb
 have hxne2 : w.heap.size ≠ x := Yef hxb
 have f2 : w.frozen? ⟨x,2,none⟩ = false := Zc hb 2
 have hnx : v.ownBlock ≠ some x := fun e => hx (hR.2 x e)
 have hnw : v.ownBlock ≠ some w.heap.size := fun e => Nat.lt_irrefl _ (hR.lt e)
 have HR := Ydy (fun o1 o2 => (hR.kept (Jp w own 67) ((((Yd3 (fun _ => False) w).alloc o1).drew).alloc o2) (fun _ _ _ h => h)))
 have z1 : ∀ o1,((w.alloc o1).drew).frozen? ⟨x,2,none⟩ = false := fun o1 => by show (w.alloc o1).frozen? _ = _; rw [Yeg _ _ _ hxb]; exact f2
 have z2 : ∀ o1 o2,(((w.alloc o1).alloc o2).drew).frozen? ⟨x,2,none⟩ = false := fun o1 o2 => by show ((w.alloc o1).alloc o2).frozen? _ = _; rw [Yeg _ _ _ (by simp; omega)]; exact z1 o1
 have HN : Hid (∀ o1 o2,(((w.alloc o1).drew).alloc o2).heap[w.heap.size + 1]? = some o2) := Ydy (fun o1 o2 => by
  have h := Zh ((w.alloc o1).drew) o2
  rw [show ((w.alloc o1).drew).heap.size = w.heap.size + 1 from by simp [Yep]] at h
  exact h)
 have HQ : Hid (∀ o1 o2 w4,(((w.alloc o1).drew).alloc o2).grownBy w4 v.ownBlock → w4.heap[x]? = some (.cells #[a0,a1,v] 137 (0,0))) := Ydy (fun o1 o2 w4 hg => (hg.block x (by simp [Yep]; omega) (Ne.symm hnx)).trans (Zm (w:=(w.alloc o1).drew) (Zm hb)))
 have HP : Hid (∀ o1 o2,Zb (fun b => b = x ∨ own b = 67) w (((w.alloc o1).drew).alloc o2)) := Ydy (fun o1 o2 => (((Yd3 _ w).alloc o1).drew).alloc o2)
 have HV : Hid (∀ g,v.ownBlock = some g → own g = 67) := Ydy hR.2
 have HB := Ydy hb
 clear hR hb
 go_enter Tryz.func81,Tryz.ntmps81
 go_wp2
 go_region_law
  ((refine Jx (by rfl) _ _ _ (by rfl) Yah (by rfl) (HR.out _ _) (B:=w.heap.size + 1) (c:=1) (cs:=#[.int .i64 d0,.int .i64 d1,.int .i64 d2,.int .i64 d3,.int .i64 d4]) (tb:=183) (fr:=(0,0)) (by rfl) (HN.out _ _) (by rfl) (by simp [Value.oneCell']) hn (w.heap.size + 2) (by simp) ?_; intro g cap w4 hR4 hgrow hat hsz; have q0 := Ydy (HQ.out _ _ _ hgrow); have q1 := Za (j:=2) q0.out rfl; have q2 := Zc q0.out 2; have HR4 := Ydy hR4; have HG4 := Ydy hgrow; clear hR4 hgrow))
 all_goals (try go_wp2)
 all_goals
  go_end0
  have hs1 : (((w.alloc (.cells #[.int .i64 d0,.int .i64 d1,.int .i64 d2,.int .i64 d3,.int .i64 d4] 183)).drew).alloc (.cells #[.int .i64 d0,.int .i64 d1,.int .i64 d2,.int .i64 d3,.int .i64 d4] 183)).heap.size = w.heap.size + 2 := by simp [Yep]
  have hO4 : Zb (fun b => b = x ∨ own b = 67) w w4 := (HP.out (.cells #[.int .i64 d0,.int .i64 d1,.int .i64 d2,.int .i64 d3,.int .i64 d4] 183) (.cells #[.int .i64 d0,.int .i64 d1,.int .i64 d2,.int .i64 d3,.int .i64 d4] 183)).trans
   ⟨HG4.out.os,HG4.out.tape,HG4.out.output,HG4.out.size,fun b hb hn => HG4.out.block b hb (fun e => hn (.inr (HV.out b e.symm)))⟩
  have hx4 : ext (ext own w.heap.size 67) (w.heap.size + 2) 67 x ≠ 67 := by rw [Zz (by omega),Zz hxb]; exact hx
  have hE : Ext w own (ext (ext own w.heap.size 67) (w.heap.size + 2) 67) := fun b hb => by rw [Zz (by omega),Zz hb]
  exact ⟨rfl,_,_,_,hE,HR4.out.kept (S:=fun b => b = x) (fun _ _ => rfl) ((Yd3 (fun b => b = x) w4).setCell (p:=⟨x,2,none⟩) (.inl rfl) _) (fun b _ hb e => hx4 (e ▸ hb)),Zj q0.out 2 _,hO4.setCell (p:=⟨x,2,none⟩) (.inl (.inl rfl)) _⟩
def Zz6 (own : Nat → Nat) (x n wb : Nat) (a0 a1 : Value) (s : Int) (w w' : World) : Prop := ∃ own' v' xs',Ext w own own' ∧ Row own' 67 w' 183 5 v' (n + 1) xs' ∧ w'.heap[x]? = some (.cells #[a0,a1,v'] 137 (0,0)) ∧ w'.heap[wb]? = some (.cells #[.int .i64 s] 3 (0,0)) ∧ Zb (fun b => b = wb ∨ b = x ∨ own b = 67) w w'
theorem Zmf (x wb : Nat) (w : World) (c0 : w.cell? ⟨x,0,none⟩ = some (.slice (some ⟨wb,0,none⟩) 1 1)) :
  Calls Ydz 80 #[.pointer (some ⟨x,0,none⟩),.int .i64 0] w fun e w' => e = .returned (.pointer (some ⟨wb,0,none⟩)) ∧ w = w' := by
 have c0' : w.cell? (Addr.add ⟨x,0,none⟩ 0) = some (.slice (some ⟨wb,0,none⟩) 1 1) := c0
 go_enter Tryz.func80,Tryz.ntmps80
 go_wp2
 go_ret
 exact ⟨rfl,rfl⟩
theorem Zd9 (x lb n k : Nat) (w : World) (hk : k < n) (c1 : w.cell? ⟨x,1,none⟩ = some (.slice (some ⟨lb,0,none⟩) n n)) :
  Calls Ydz 185 #[.pointer (some ⟨x,0,none⟩),.int .i64 (k : Int)] w fun e w' => e = .returned (.pointer (some ⟨lb,k * 2,none⟩)) ∧ w = w' := by
 go_enter Tryz.func185,Tryz.ntmps185
 go_wp2
 go_ret
 exact ⟨rfl,rfl⟩
theorem Zu0 (own : Nat → Nat) (x wb n : Nat) (a1 v : Value) (xs : List Value) (th s : Int) (w : World) (hb : w.heap[x]? = some (.cells #[.slice (some ⟨wb,0,none⟩) 1 1,a1,v] 137 (0,0))) (hw : w.heap[wb]? = some (.cells #[.int .i64 s] 3 (0,0))) (hx : own x ≠ 67) (hwx : wb ≠ x) (hwo : own wb ≠ 67) (hR : Row own 67 w 183 5 v n xs) (hn : n ≤ 1000000) :
  Calls Ydz 48 #[.pointer (some ⟨x,0,none⟩),.int .i64 th,.int .i64 0] w fun r w' => r = .returned (.tuple #[.int .i64 s,.int .i64 0]) ∧ Zb2 own x n (.slice (some ⟨wb,0,none⟩) 1 1) a1 w w' := by
 have c0 : w.cell? ⟨wb,0,none⟩ = some (.int .i64 s) := Za hw rfl
 have H0 : Hid (∀ nq,Sm w (w.drewN nq)) := Ydy fun nq => ⟨rfl,rfl,rfl,rfl⟩
 have HW := Ydy (Zmf x wb w (Za hb rfl))
 have HN := Ydy (fun w1 (hs : Sm w w1) => Zcd own x n (.slice (some ⟨wb,0,none⟩) 1 1) a1 v xs th 1 0 s s w1 (hs.block hb) hx (hR.sm hs) hn)
 have HB := Ydy hw
 clear hb hR hw
 go_enter Tryz.func48,Tryz.ntmps48
 go_wp2_with fail
 refine (HW.out).mono ?_
 rintro e w' ⟨rfl,rfl⟩
 go_wp2
 refine Z4 10 (by kernel_rfl) (by kernel_rfl) ?_
 intro w3 hc3 hf3 hs3 HW3
 simp only [List.take_succ_cons,List.take_zero,List.drop_succ_cons,List.drop_zero]
 repeat still_step
 refine wpStill_nil ?_
 go_wp2_with fail
 refine (HN.out w3 (by rw [← HW3.out]; exact ⟨rfl,rfl,rfl,rfl⟩)).mono ?_
 rintro e w4 ⟨rfl,hq⟩
 have k0 : w4.cell? ⟨wb,0,none⟩ = some (.int .i64 s) := by
  obtain ⟨own',v',xs',h1,h2,h3,h4⟩ := hq
  refine Zd (w:=w3) (by rw [hc3]; exact c0) h4 (fun h => ?_)
  rcases h with h | h
  ·exact hwx h
  ·exact hwo h
 go_wp2
 go_ret2
 refine ⟨rfl,?_⟩
 obtain ⟨own',v',xs',h1,h2,h3,h4⟩ := hq
 have hsm : Sm w w3 := by rw [← HW3.out]; exact ⟨rfl,rfl,rfl,rfl⟩
 exact ⟨own',v',xs',fun b hb => h1 b (by rw [hsm.size]; exact hb),h2,h3,hsm.only.trans h4⟩
theorem Zr8 (own : Nat → Nat) (x wb n : Nat) (a1 v : Value) (xs : List Value) (th s s' : Int) (w : World) (hb : w.heap[x]? = some (.cells #[.slice (some ⟨wb,0,none⟩) 1 1,a1,v] 137 (0,0))) (hw : w.heap[wb]? = some (.cells #[.int .i64 s] 3 (0,0))) (hx : own x ≠ 67) (hwx : wb ≠ x) (hwo : own wb ≠ 67) (hR : Row own 67 w 183 5 v n xs) (hn : n ≤ 1000000) :
  Calls Ydz 141 #[.pointer (some ⟨x,0,none⟩),.int .i64 th,.int .i64 0,.int .i64 s'] w fun r w' => r = .returned (.int .i64 0) ∧ Zz6 own x n wb (.slice (some ⟨wb,0,none⟩) 1 1) a1 s' w w' := by
 have c0 : w.cell? ⟨wb,0,none⟩ = some (.int .i64 s) := Za hw rfl
 have HW := Ydy (Zmf x wb w (Za hb rfl))
 have HN := Ydy (Zcd own x n (.slice (some ⟨wb,0,none⟩) 1 1) a1 v xs th 2 0 s s' w hb hx hR hn)
 have HB := Ydy hw
 clear hb hR hw
 go_enter Tryz.func141,Tryz.ntmps141
 go_wp2_with fail
 refine (HW.out).mono ?_
 rintro e w' ⟨rfl,rfl⟩
 go_wp2_with fail
 refine (HN.out).mono ?_
 rintro e w4 ⟨rfl,hq⟩
 obtain ⟨own',v',xs',h1,h2,h3,h4⟩ := hq
 have k := h4.kept HB.out (fun h => h.elim hwx hwo)
 have k0 : w4.cell? ⟨wb,0,none⟩ = some (.int .i64 s) := Za k rfl
 have f0 : w4.frozen? ⟨wb,0,none⟩ = false := Zc k 0
 have K := Ydy k
 have H1 := Ydy h1
 have H2 := Ydy h2
 have H3 := Ydy h3
 have H4 := Ydy h4
 clear k h1 h2 h3 h4
 go_wp2
 go_ret
 have hwo' : own' wb ≠ 67 := by rw [H1.out wb (Ze HB.out)]; exact hwo
 exact ⟨rfl,own',v',xs',H1.out,H2.out.kept (S:=fun b => b = wb) (fun _ _ => rfl) ((Yd3 (fun b => b = wb) w4).setCell (p:=⟨wb,0,none⟩) (.inl rfl) _) (fun b _ hb e => hwo' (e ▸ hb)),Z7 H3.out (Ne.symm hwx) 0 _,Zj K.out 0 _,
  (H4.out.mono (fun b _ h => .inr h)).setCell (p:=⟨wb,0,none⟩) (.inl (.inl rfl)) _⟩
theorem Zb2.after {own : Nat → Nat} (ho : Zb (fun _ => False) w w1) (h : Zb2 (ext own w.heap.size 0) x m a0 a1 w1 w') : Zb2 own x m a0 a1 w w' := by
 obtain ⟨own',v',xs',h1,h2,h3,h4⟩ := h
 refine ⟨own',v',xs',(Jp w own 0).trans ho.size h1,h2,h3,(ho.mono (fun _ _ h => h.elim)).then h4 (fun b hb hT => ?_)⟩
 rcases hT with hT | hT
 ·exact .inl hT
 ·rw [Zz hb] at hT; exact .inr hT
theorem Zsc (x lb n k : Nat) (th a : Int) (w : World) (c1 : w.cell? ⟨x,1,none⟩ = some (.slice (some ⟨lb,0,none⟩) n n)) (hk : k < n) (ha : a ≠ th)
  (k0 : w.cell? ⟨lb,k * 2,none⟩ = some (.int .i64 a)) (k1 : w.cell? ⟨lb,k * 2 + 1,none⟩ = some (.bool true)) (hlb : lb < w.heap.size) :
  Calls Ydz 178 #[.pointer (some ⟨x,0,none⟩),.int .i64 th,.int .i64 (k : Int),.int .i64 4] w fun r w' => r = .returned (.tuple #[.bool false,.int .i64 6]) ∧ Zb (fun _ => False) w w' := by
 have HL := Ydy (Zd9 x lb n k w hk c1)
 have hne : lb ≠ w.heap.size := Yed hlb
 have hne' : w.heap.size ≠ lb := Yef hlb
 have hq := fun W => Zgp W a th true true
 have hb : (a == th) = false := beq_eq_false_iff_ne.2 ha
 simp only [hb,Bool.false_and] at hq
 clear hb
 go_enter Yem,Yek
 go_wp2_with fail
 refine (HL.out).mono ?_
 rintro e w' ⟨rfl,rfl⟩
 go_wp2
 go_quiet (fail)
 go_wp2
 go_ret2
 refine ⟨rfl,?_⟩
 (repeat (first | with_reducible exact Yd3 _ _ | with_reducible refine Yec ?_ | with_reducible refine Yeb ?_ _ | with_reducible refine Yea ?_ _ | ((with_reducible refine Yd5 ?_ ?_ _); rotate_left; first | exact .inl rfl | exact .inr (Yd0 _) | exact .inl (.inl rfl) | exact .inl (.inr rfl) | exact .inl (.inr (.inl rfl)) | exact .inl (.inr (.inr rfl)) | (focus (right; first | (simp; done) | (simp; omega))))))
theorem Zsd (own : Nat → Nat) (x lb n m k : Nat) (a0 v : Value) (xs : List Value) (th a : Int) (w : World) (hb : w.heap[x]? = some (.cells #[a0,.slice (some ⟨lb,0,none⟩) n n,v] 137 (0,0))) (hk : k < n) (ha : a ≠ th)
  (k0 : w.cell? ⟨lb,k * 2,none⟩ = some (.int .i64 a)) (k1 : w.cell? ⟨lb,k * 2 + 1,none⟩ = some (.bool true)) (hlb : lb < w.heap.size) (hx : own x ≠ 67) (hR : Row own 67 w 183 5 v m xs) (hn : m ≤ 1000000) :
  Calls Ydz 178 #[.pointer (some ⟨x,0,none⟩),.int .i64 th,.int .i64 (k : Int),.int .i64 5] w fun r w' => r = .returned (.tuple #[.bool false,.int .i64 0]) ∧ Zb2 own x m a0 (.slice (some ⟨lb,0,none⟩) n n) w w' := by
 have HL := Ydy (Zd9 x lb n k w hk (Za hb rfl))
 have HN := Ydy (fun w1 (ho : Zb (fun _ => False) w w1) => Zcd (ext own w.heap.size 0) x m a0 (.slice (some ⟨lb,0,none⟩) n n) v xs th 5 (k : Int) 1 1 w1 (ho.kept hb (fun h => h)) (by rw [Zz (Ze hb)]; exact hx) (hR.kept (Jp w own 0) ho (fun _ _ _ h => h)) hn)
 have HB := Ydy (Ze hb)
 clear hb hR
 have hne : lb ≠ w.heap.size := Yed hlb
 have hne' : w.heap.size ≠ lb := Yef hlb
 have hq := fun W => Zgp W a th true true
 have hb : (a == th) = false := beq_eq_false_iff_ne.2 ha
 simp only [hb,Bool.false_and] at hq
 clear hb
 go_enter Yem,Yek
 go_wp2_with fail
 refine (HL.out).mono ?_
 rintro e w' ⟨rfl,rfl⟩
 go_wp2
 go_quiet (fail)
 go_wp2_with fail
 refine (HN.out _ ?_).mono ?_
 ·(repeat (first | with_reducible exact Yd3 _ _ | with_reducible refine Yec ?_ | with_reducible refine Yeb ?_ _ | with_reducible refine Yea ?_ _ | ((with_reducible refine Yd5 ?_ ?_ _); rotate_left; first | exact .inl rfl | exact .inr (Yd0 _) | exact .inl (.inl rfl) | exact .inl (.inr rfl) | exact .inl (.inr (.inl rfl)) | exact .inl (.inr (.inr rfl)) | (focus (right; first | (simp; done) | (simp; omega))))))
 rintro e w4 ⟨rfl,hq4⟩
 have HQ := Ydy hq4
 clear hq4
 go_wp2
 go_ret2
 refine ⟨rfl,Zb2.after ?_ HQ.out⟩
 (repeat (first | with_reducible exact Yd3 _ _ | with_reducible refine Yec ?_ | with_reducible refine Yeb ?_ _ | with_reducible refine Yea ?_ _ | ((with_reducible refine Yd5 ?_ ?_ _); rotate_left; first | exact .inl rfl | exact .inr (Yd0 _) | exact .inl (.inl rfl) | exact .inl (.inr rfl) | exact .inl (.inr (.inl rfl)) | exact .inl (.inr (.inr rfl)) | (focus (right; first | (simp; done) | (simp; omega))))))
def Zdu (own : Nat → Nat) (x n lb : Nat) (a0 a1 : Value) (arr : Array Value) (w w' : World) : Prop := ∃ own' v' xs',Ext w own own' ∧ Row own' 67 w' 183 5 v' (n + 1) xs' ∧ w'.heap[x]? = some (.cells #[a0,a1,v'] 137 (0,0)) ∧ w'.heap[lb]? = some (.cells arr 290 (0,0)) ∧ Zb (fun b => b = lb ∨ b = x ∨ own b = 67) w w'
theorem Zb2.lock {own : Nat → Nat} {lb : Nat} {arr : Array Value} (ho : Zb (fun b => b = lb) w w1) (hA : w1.heap[lb]? = some (.cells arr 290 (0,0))) (h : Zb2 (ext own w.heap.size 0) x m a0 a1 w1 w') (hl : lb < w.heap.size) (hlx : lb ≠ x) (hlo : own lb ≠ 67) : Zdu own x m lb a0 a1 arr w w' := by
 obtain ⟨own',v',xs',h1,h2,h3,h4⟩ := h
 refine ⟨own',v',xs',(Jp w own 0).trans ho.size h1,h2,h3,h4.kept hA (fun hT => ?_),(ho.mono (fun _ _ h => .inl h)).then h4 (fun b hb hT => ?_)⟩
 ·rcases hT with hT | hT
  ·exact hlx hT
  ·rw [Zz hl] at hT; exact hlo hT
 ·rcases hT with hT | hT
  ·exact .inr (.inl hT)
  ·rw [Zz hb] at hT; exact .inr (.inr hT)
theorem Zh4 {b : Nat} {o : Obj} (h : w.heap[b]? = some o) : (w.drewN n).heap[b]? = some o := h
theorem Zy8 (own : Nat → Nat) (x lb n m k : Nat) (a0 v : Value) (arr : Array Value) (xs : List Value) (th a d : Int) (w : World) (hb : w.heap[x]? = some (.cells #[a0,.slice (some ⟨lb,0,none⟩) n n,v] 137 (0,0))) (hk : k < n) (hl : w.heap[lb]? = some (.cells arr 290 (0,0)))
  (k0 : arr[k * 2]? = some (.int .i64 a)) (k1 : arr[k * 2 + 1]? = some (.bool false)) (hx : own x ≠ 67) (hlo : own lb ≠ 67) (hlx : lb ≠ x) (hR : Row own 67 w 183 5 v m xs) (hn : m ≤ 1000000) :
  Calls Ydz 178 #[.pointer (some ⟨x,0,none⟩),.int .i64 th,.int .i64 (k : Int),.int .i64 d] w fun r w' => r = .returned (.tuple #[.bool true,.int .i64 0]) ∧ Zdu own x m lb a0 (.slice (some ⟨lb,0,none⟩) n n) ((arr.setIfInBounds (k * 2) (.int .i64 th)).setIfInBounds (k * 2 + 1) (.bool true)) w w' := by
 have c0 : w.cell? ⟨lb,k * 2,none⟩ = some (.int .i64 a) := Za hl k0
 have c1 : w.cell? ⟨lb,k * 2 + 1,none⟩ = some (.bool false) := Za hl k1
 have f0 : w.frozen? ⟨lb,k * 2,none⟩ = false := Zc hl _
 have f1 : w.frozen? ⟨lb,k * 2 + 1,none⟩ = false := Zc hl _
 have hlb := Ze hl
 have HL := Ydy (Zd9 x lb n k w hk (Za hb rfl))
 have HN := Ydy (fun w1 (ho : Zb (fun b => b = lb) w w1) (hA : w1.heap[lb]? = some (.cells ((arr.setIfInBounds (k * 2) (.int .i64 th)).setIfInBounds (k * 2 + 1) (.bool true)) 290 (0,0))) => (Zcd (ext own w.heap.size 0) x m a0 (.slice (some ⟨lb,0,none⟩) n n) v xs th d (k : Int) 0 1 w1 (ho.kept hb (fun h => hlx h.symm)) (by rw [Zz (Ze hb)]; exact hx) (hR.kept (Jp w own 0) ho (fun b _ h e => hlo (by rw [← e]; exact h))) hn).mono (R':=fun r w' => r = .returned (.tuple #[]) ∧ Zdu own x m lb a0 (.slice (some ⟨lb,0,none⟩) n n) ((arr.setIfInBounds (k * 2) (.int .i64 th)).setIfInBounds (k * 2 + 1) (.bool true)) w w') (fun r w' ⟨e,h⟩ => ⟨e,Zb2.lock ho hA h hlb hlx hlo⟩))
 have HB := Ydy (Ze hb)
 have HA := Ydy hl
 clear hb hR hl k0 k1
 have hne : lb ≠ w.heap.size := Yed hlb
 have hne' : w.heap.size ≠ lb := Yef hlb
 have hq := fun W => Zgp W a th false true
 simp only [show (false == true) = false from rfl,Bool.and_false] at hq
 go_enter Yem,Yek
 go_wp2_with fail
 refine (HL.out).mono ?_
 rintro e w' ⟨rfl,rfl⟩
 go_wp2
 go_quiet (fail)
 go_wp2_with fail
 refine (HN.out _ ?_ ?_).mono ?_
 ·(repeat (first | with_reducible exact Yd3 _ _ | with_reducible refine Yec ?_ | with_reducible refine Yeb ?_ _ | with_reducible refine Yea ?_ _ | ((with_reducible refine Yd5 ?_ ?_ _); rotate_left; first | exact .inl rfl | exact .inr (Yd0 _) | exact .inl (.inl rfl) | exact .inl (.inr rfl) | exact .inl (.inr (.inl rfl)) | exact .inl (.inr (.inr rfl)) | (focus (right; first | (simp; done) | (simp; omega))))))
 ·(repeat (first | with_reducible exact HA.out | with_reducible refine Zj ?_ _ _ | ((with_reducible refine Z7 ?_ ?_ _ _); rotate_left; (focus (first | assumption | omega))) | with_reducible refine Zm ?_ | with_reducible refine Zas ?_ | with_reducible refine Zh4 ?_))
 rintro e w4 ⟨rfl,hq4⟩
 have HQ := Ydy hq4
 clear hq4
 go_wp2
 go_ret2
 exact ⟨rfl,HQ.out⟩
theorem Zpf (x : Nat) (th k : Int) (w : World) (b : Bool) (e : Int) (R : World → Prop) (h : Calls Ydz 178 #[.pointer (some ⟨x,0,none⟩),.int .i64 th,.int .i64 k,.int .i64 4] w fun r w' => r = .returned (.tuple #[.bool b,.int .i64 e]) ∧ R w') :
  Calls Ydz 133 #[.pointer (some ⟨x,0,none⟩),.int .i64 th,.int .i64 k] w fun r w' => r = .returned (.int .i64 e) ∧ R w' := by
 have H := Ydy h
 clear h
 go_enter Tryz.func133,Tryz.ntmps133
 go_wp2_with fail
 refine (H.out).mono ?_
 rintro r w' ⟨rfl,hr⟩
 go_wp2
 go_ret
 exact ⟨rfl,hr⟩
theorem Zhi (x : Nat) (th k : Int) (w : World) (b : Bool) (e : Int) (R : World → Prop) (h : Calls Ydz 178 #[.pointer (some ⟨x,0,none⟩),.int .i64 th,.int .i64 k,.int .i64 5] w fun r w' => r = .returned (.tuple #[.bool b,.int .i64 e]) ∧ R w') :
  Calls Ydz 132 #[.pointer (some ⟨x,0,none⟩),.int .i64 th,.int .i64 k] w fun r w' => r = .returned (.tuple #[.bool b,.int .i64 e]) ∧ R w' := by
 have H := Ydy h
 clear h
 go_enter Tryz.func132,Tryz.ntmps132
 go_wp2_with fail
 refine (H.out).mono ?_
 rintro r w' ⟨rfl,hr⟩
 go_wp2
 go_ret2
 exact ⟨rfl,hr⟩
theorem Zsj (own : Nat → Nat) (x lb n m k : Nat) (a0 v : Value) (arr : Array Value) (xs : List Value) (th : Int) (w : World) (hb : w.heap[x]? = some (.cells #[a0,.slice (some ⟨lb,0,none⟩) n n,v] 137 (0,0))) (hk : k < n) (hl : w.heap[lb]? = some (.cells arr 290 (0,0)))
  (k0 : arr[k * 2]? = some (.int .i64 th)) (k1 : arr[k * 2 + 1]? = some (.bool true)) (hx : own x ≠ 67) (hlo : own lb ≠ 67) (hlx : lb ≠ x) (hR : Row own 67 w 183 5 v m xs) (hn : m ≤ 1000000) :
  Calls Ydz 139 #[.pointer (some ⟨x,0,none⟩),.int .i64 th,.int .i64 (k : Int)] w fun r w' => r = .returned (.int .i64 0) ∧ Zdu own x m lb a0 (.slice (some ⟨lb,0,none⟩) n n) ((arr.setIfInBounds (k * 2) (.int .i64 0)).setIfInBounds (k * 2 + 1) (.bool false)) w w' := by
 have c0 : w.cell? ⟨lb,k * 2,none⟩ = some (.int .i64 th) := Za hl k0
 have c1 : w.cell? ⟨lb,k * 2 + 1,none⟩ = some (.bool true) := Za hl k1
 have f0 : w.frozen? ⟨lb,k * 2,none⟩ = false := Zc hl _
 have f1 : w.frozen? ⟨lb,k * 2 + 1,none⟩ = false := Zc hl _
 have hlb := Ze hl
 have HL := Ydy (Zd9 x lb n k w hk (Za hb rfl))
 have HN := Ydy (fun w1 (ho : Zb (fun b => b = lb) w w1) (hA : w1.heap[lb]? = some (.cells ((arr.setIfInBounds (k * 2) (.int .i64 0)).setIfInBounds (k * 2 + 1) (.bool false)) 290 (0,0))) => (Zcd (ext own w.heap.size 0) x m a0 (.slice (some ⟨lb,0,none⟩) n n) v xs th 6 (k : Int) 1 0 w1 (ho.kept hb (fun h => hlx h.symm)) (by rw [Zz (Ze hb)]; exact hx) (hR.kept (Jp w own 0) ho (fun b _ h e => hlo (by rw [← e]; exact h))) hn).mono (R':=fun r w' => r = .returned (.tuple #[]) ∧ Zdu own x m lb a0 (.slice (some ⟨lb,0,none⟩) n n) ((arr.setIfInBounds (k * 2) (.int .i64 0)).setIfInBounds (k * 2 + 1) (.bool false)) w w') (fun r w' ⟨e,h⟩ => ⟨e,Zb2.lock ho hA h hlb hlx hlo⟩))
 have HA := Ydy hl
 clear hb hR hl k0 k1
 have hne : lb ≠ w.heap.size := Yed hlb
 have hq := fun W => Zu6 W th th true true
 simp only [beq_self_eq_true,Bool.and_self,Bool.not_true] at hq
 go_enter Tryz.func139,Tryz.ntmps139
 go_wp2_with fail
 refine (HL.out).mono ?_
 rintro e w' ⟨rfl,rfl⟩
 go_wp2_with fail
 refine (HN.out _ ?_ ?_).mono ?_
 ·(repeat (first | with_reducible exact Yd3 _ _ | with_reducible refine Yec ?_ | with_reducible refine Yeb ?_ _ | with_reducible refine Yea ?_ _ | ((with_reducible refine Yd5 ?_ ?_ _); rotate_left; first | exact .inl rfl | exact .inr (Yd0 _) | exact .inl (.inl rfl) | exact .inl (.inr rfl) | exact .inl (.inr (.inl rfl)) | exact .inl (.inr (.inr rfl)) | (focus (right; first | (simp; done) | (simp; omega))))))
 ·(repeat (first | with_reducible exact HA.out | with_reducible refine Zj ?_ _ _ | ((with_reducible refine Z7 ?_ ?_ _ _); rotate_left; (focus (first | assumption | omega))) | with_reducible refine Zm ?_ | with_reducible refine Zas ?_ | with_reducible refine Zh4 ?_))
 rintro e w4 ⟨rfl,hq4⟩
 have HQ := Ydy hq4
 clear hq4
 go_wp2
 go_ret
 exact ⟨rfl,HQ.out⟩
end
def Ky : List (Int × Bool) → List Value
 | [] => []
 | h :: r => .int .i64 h.1 :: .bool h.2 :: Ky r
theorem J6 {h : Int × Bool} (hk : H[k]? = some h) : (Ky H).toArray[k * 2]? = some (.int .i64 h.1) ∧ (Ky H).toArray[k * 2 + 1]? = some (.bool h.2) := by
 induction H generalizing k with
 | nil => simp at hk
 | cons a r ih =>
  cases k with
  | zero => simp only [Yeh,Option.some.injEq] at hk; subst hk; simp [Ky]
  | succ k =>
   have := ih (k:=k) (by simpa using hk)
   rw [show (k + 1) * 2 = k * 2 + 2 from by omega,show k * 2 + 2 + 1 = k * 2 + 1 + 2 from by omega]
   simpa [Ky] using this
theorem Zqz (H : List (Int × Bool)) (k : Nat) (h : Int × Bool) : (((Ky H).toArray.setIfInBounds (k * 2) (.int .i64 h.1)).setIfInBounds (k * 2 + 1) (.bool h.2)) = (Ky (H.set k h)).toArray := by
 induction H generalizing k with
 | nil => simp [Ky]
 | cons a r ih =>
  cases k with
  | zero => simp [Ky]
  | succ k =>
   have := ih k
   rw [show (k + 1) * 2 = k * 2 + 2 from by omega,show k * 2 + 2 + 1 = k * 2 + 1 + 2 from by omega]
   simp only [Ky,List.set_cons_succ,List.setIfInBounds_toArray] at this ⊢
   have h2 := congrArg Array.toList this
   simp only at h2
   rw [h2]
def Za6 (own : Nat → Nat) (w : World) (x : Nat) (s : Int) (H : List (Int × Bool)) (n : Nat) : Prop :=
 ∃ wb lb v xs,own x = 64 ∧ own wb = 65 ∧ own lb = 66 ∧ w.heap[x]? = some (.cells #[.slice (some ⟨wb,0,none⟩) 1 1,.slice (some ⟨lb,0,none⟩) H.length H.length,v] 137 (0,0)) ∧ w.heap[wb]? = some (.cells #[.int .i64 s] 3 (0,0)) ∧ w.heap[lb]? = some (.cells (Ky H).toArray 290 (0,0)) ∧ Row own 67 w 183 5 v n xs
theorem Za6.kept {own : Nat → Nat} {s : Int} (h : Za6 own w x s H n) (he : Ext w own own') (ho : Zb S w w') (hS : ∀ b,b < w.heap.size → 64 ≤ own b → own b < 68 → ¬ S b) : Za6 own' w' x s H n := by
 obtain ⟨wb,lb,v,xs,h1,h2,h3,h4,h5,h6,h7⟩ := h
 have b4 := Ze h4
 have b5 := Ze h5
 have b6 := Ze h6
 exact ⟨wb,lb,v,xs,(he _ b4).trans h1,(he _ b5).trans h2,(he _ b6).trans h3,ho.kept h4 (hS _ b4 (by omega) (by omega)),ho.kept h5 (hS _ b5 (by omega) (by omega)),ho.kept h6 (hS _ b6 (by omega) (by omega)),h7.kept he ho (fun b hb hl => hS b hb (by omega) (by omega))⟩
def CeQ (own : Nat → Nat) (w : World) (x : Nat) (s : Int) (H : List (Int × Bool)) (n : Nat) (w' : World) : Prop := ∃ own',Ext w own own' ∧ Za6 own' w' x s H n ∧ Zb (Own own 64 68) w w'
theorem Zts {own : Nat → Nat} {s : Int} (h : Za6 own w x s H n) (hn : n ≤ 1000000) (th : Int) :
  Calls Ydz 48 #[.pointer (some ⟨x,0,none⟩),.int .i64 th,.int .i64 0] w fun r w' => r = .returned (.tuple #[.int .i64 s,.int .i64 0]) ∧ CeQ own w x s H (n + 1) w' := by
 obtain ⟨wb,lb,v,xs,h1,h2,h3,h4,h5,h6,h7⟩ := h
 have b4 := Ze h4
 have b5 := Ze h5
 have b6 := Ze h6
 refine (Zu0 own x wb n _ v xs th s w h4 h5 (by omega) (fun e => by rw [e] at h2; omega) (by omega) h7 hn).mono ?_
 rintro r w' ⟨rfl,own',v',xs',e1,e2,e3,e4⟩
 refine ⟨rfl,own',e1,⟨wb,lb,v',xs',(e1 _ b4).trans h1,(e1 _ b5).trans h2,(e1 _ b6).trans h3,e3,e4.kept h5 (fun q => ?_),e4.kept h6 (fun q => ?_),e2⟩,e4.mono (fun b _ q => ?_)⟩
 ·rcases q with q | q
  ·rw [q] at h2; omega
  ·omega
 ·rcases q with q | q
  ·rw [q] at h3; omega
  ·omega
 ·rcases q with rfl | q
  ·exact ⟨by omega,by omega⟩
  ·exact ⟨by omega,by omega⟩
theorem Zxe {own : Nat → Nat} {s : Int} (h : Za6 own w x s H n) (hn : n ≤ 1000000) (th s' : Int) :
  Calls Ydz 141 #[.pointer (some ⟨x,0,none⟩),.int .i64 th,.int .i64 0,.int .i64 s'] w fun r w' => r = .returned (.int .i64 0) ∧ CeQ own w x s' H (n + 1) w' := by
 obtain ⟨wb,lb,v,xs,h1,h2,h3,h4,h5,h6,h7⟩ := h
 have b4 := Ze h4
 have b5 := Ze h5
 have b6 := Ze h6
 refine (Zr8 own x wb n _ v xs th s s' w h4 h5 (by omega) (fun e => by rw [e] at h2; omega) (by omega) h7 hn).mono ?_
 rintro r w' ⟨rfl,own',v',xs',e1,e2,e3,e5,e4⟩
 refine ⟨rfl,own',e1,⟨wb,lb,v',xs',(e1 _ b4).trans h1,(e1 _ b5).trans h2,(e1 _ b6).trans h3,e3,e5,e4.kept h6 (fun q => ?_),e2⟩,e4.mono (fun b _ q => ?_)⟩
 ·rcases q with q | q | q
  ·rw [q] at h3; omega
  ·rw [q] at h3; omega
  ·omega
 ·rcases q with rfl | rfl | q
  ·exact ⟨by omega,by omega⟩
  ·exact ⟨by omega,by omega⟩
  ·exact ⟨by omega,by omega⟩
theorem Zdu.ce {own : Nat → Nat} {wb lb : Nat} {s : Int} {hh : Int × Bool} (h1 : own x = 64) (h2 : own wb = 65) (h3 : own lb = 66) (b4 : x < w.heap.size) (h5 : w.heap[wb]? = some (.cells #[.int .i64 s] 3 (0,0))) (b6 : lb < w.heap.size)
  (h : Zdu own x n lb (.slice (some ⟨wb,0,none⟩) 1 1) (.slice (some ⟨lb,0,none⟩) H.length H.length) (((Ky H).toArray.setIfInBounds (k * 2) (.int .i64 hh.1)).setIfInBounds (k * 2 + 1) (.bool hh.2)) w w') : CeQ own w x s (H.set k hh) (n + 1) w' := by
 obtain ⟨own',v',xs',e1,e2,e3,e5,e4⟩ := h
 have b5 := Ze h5
 rw [Zqz] at e5
 refine ⟨own',e1,⟨wb,lb,v',xs',(e1 _ b4).trans h1,(e1 _ b5).trans h2,(e1 _ b6).trans h3,by rw [List.length_set]; exact e3,e4.kept h5 (fun q => ?_),e5,e2⟩,e4.mono (fun b _ q => ?_)⟩
 ·rcases q with q | q | q
  ·rw [q] at h2; omega
  ·rw [q] at h2; omega
  ·omega
 ·rcases q with rfl | rfl | q
  ·exact ⟨by omega,by omega⟩
  ·exact ⟨by omega,by omega⟩
  ·exact ⟨by omega,by omega⟩
theorem Zh0 {own : Nat → Nat} {s : Int} (h : Za6 own w x s H n) (hn : n ≤ 1000000) (hk : H[k]? = some (a,false)) (th d : Int) :
  Calls Ydz 178 #[.pointer (some ⟨x,0,none⟩),.int .i64 th,.int .i64 (k : Int),.int .i64 d] w fun r w' => r = .returned (.tuple #[.bool true,.int .i64 0]) ∧ CeQ own w x s (H.set k (th,true)) (n + 1) w' := by
 obtain ⟨wb,lb,v,xs,h1,h2,h3,h4,h5,h6,h7⟩ := h
 have hkn : k < H.length := by
  rcases Yd6 k H.length with q | q
  ·exact q
  ·rw [Yd1 q] at hk; cases hk
 refine (Zy8 own x lb H.length n k _ v (Ky H).toArray xs th a d w h4 hkn h6 (J6 hk).1 (J6 hk).2 (by omega) (by omega) (fun e => by rw [e] at h3; omega) h7 hn).mono ?_
 rintro r w' ⟨rfl,hq⟩
 exact ⟨rfl,Zdu.ce (hh:=(th,true)) h1 h2 h3 (Ze h4) h5 (Ze h6) hq⟩
theorem Zko {own : Nat → Nat} {s : Int} (h : Za6 own w x s H n) (th : Int) (hk : H[k]? = some (a,true)) (ha : a ≠ th) :
  Calls Ydz 178 #[.pointer (some ⟨x,0,none⟩),.int .i64 th,.int .i64 (k : Int),.int .i64 4] w fun r w' => r = .returned (.tuple #[.bool false,.int .i64 6]) ∧ CeQ own w x s H n w' := by
 have h0 := h
 obtain ⟨wb,lb,v,xs,h1,h2,h3,h4,h5,h6,h7⟩ := h
 have hkn : k < H.length := by
  rcases Yd6 k H.length with q | q
  ·exact q
  ·rw [Yd1 q] at hk; cases hk
 refine (Zsc x lb H.length k th a w (Za h4 rfl) hkn ha (Za h6 (J6 hk).1) (Za h6 (J6 hk).2) (Ze h6)).mono ?_
 rintro r w' ⟨rfl,ho⟩
 exact ⟨rfl,own,fun _ _ => rfl,h0.kept (fun _ _ => rfl) ho (fun _ _ _ _ q => q),ho.mono (fun _ _ q => q.elim)⟩
theorem Zkp {own : Nat → Nat} {s : Int} (h : Za6 own w x s H n) (hn : n ≤ 1000000) (th : Int) (hk : H[k]? = some (a,true)) (ha : a ≠ th) :
  Calls Ydz 178 #[.pointer (some ⟨x,0,none⟩),.int .i64 th,.int .i64 (k : Int),.int .i64 5] w fun r w' => r = .returned (.tuple #[.bool false,.int .i64 0]) ∧ CeQ own w x s H (n + 1) w' := by
 obtain ⟨wb,lb,v,xs,h1,h2,h3,h4,h5,h6,h7⟩ := h
 have hkn : k < H.length := by
  rcases Yd6 k H.length with q | q
  ·exact q
  ·rw [Yd1 q] at hk; cases hk
 have b4 := Ze h4
 have b5 := Ze h5
 have b6 := Ze h6
 refine (Zsd own x lb H.length n k _ v xs th a w h4 hkn ha (Za h6 (J6 hk).1) (Za h6 (J6 hk).2) b6 (by omega) h7 hn).mono ?_
 rintro r w' ⟨rfl,own',v',xs',e1,e2,e3,e4⟩
 refine ⟨rfl,own',e1,⟨wb,lb,v',xs',(e1 _ b4).trans h1,(e1 _ b5).trans h2,(e1 _ b6).trans h3,e3,e4.kept h5 (fun q => ?_),e4.kept h6 (fun q => ?_),e2⟩,e4.mono (fun b _ q => ?_)⟩
 ·rcases q with q | q
  ·rw [q] at h2; omega
  ·omega
 ·rcases q with q | q
  ·rw [q] at h3; omega
  ·omega
 ·rcases q with rfl | q
  ·exact ⟨by omega,by omega⟩
  ·exact ⟨by omega,by omega⟩
theorem Zhz {own : Nat → Nat} {s : Int} (h : Za6 own w x s H n) (hn : n ≤ 1000000) (hk : H[k]? = some (a,false)) (th : Int) :
  Calls Ydz 133 #[.pointer (some ⟨x,0,none⟩),.int .i64 th,.int .i64 (k : Int)] w fun r w' => r = .returned (.int .i64 0) ∧ CeQ own w x s (H.set k (th,true)) (n + 1) w' :=
 Zpf x th k w true 0 _ (Zh0 h hn hk th 4)
theorem Zfe {own : Nat → Nat} {s : Int} (h : Za6 own w x s H n) (th : Int) (hk : H[k]? = some (a,true)) (ha : a ≠ th) :
  Calls Ydz 133 #[.pointer (some ⟨x,0,none⟩),.int .i64 th,.int .i64 (k : Int)] w fun r w' => r = .returned (.int .i64 6) ∧ CeQ own w x s H n w' :=
 Zpf x th k w false 6 _ (Zko h th hk ha)
theorem Ztt {own : Nat → Nat} {s : Int} (h : Za6 own w x s H n) (hn : n ≤ 1000000) (hk : H[k]? = some (a,false)) (th : Int) :
  Calls Ydz 132 #[.pointer (some ⟨x,0,none⟩),.int .i64 th,.int .i64 (k : Int)] w fun r w' => r = .returned (.tuple #[.bool true,.int .i64 0]) ∧ CeQ own w x s (H.set k (th,true)) (n + 1) w' :=
 Zhi x th k w true 0 _ (Zh0 h hn hk th 5)
theorem Zm0 {own : Nat → Nat} {s : Int} (h : Za6 own w x s H n) (hn : n ≤ 1000000) (th : Int) (hk : H[k]? = some (a,true)) (ha : a ≠ th) :
  Calls Ydz 132 #[.pointer (some ⟨x,0,none⟩),.int .i64 th,.int .i64 (k : Int)] w fun r w' => r = .returned (.tuple #[.bool false,.int .i64 0]) ∧ CeQ own w x s H (n + 1) w' :=
 Zhi x th k w false 0 _ (Zkp h hn th hk ha)
theorem Zgh {own : Nat → Nat} {s th : Int} (h : Za6 own w x s H n) (hn : n ≤ 1000000) (hk : H[k]? = some (th,true)) :
  Calls Ydz 139 #[.pointer (some ⟨x,0,none⟩),.int .i64 th,.int .i64 (k : Int)] w fun r w' => r = .returned (.int .i64 0) ∧ CeQ own w x s (H.set k (0,false)) (n + 1) w' := by
 obtain ⟨wb,lb,v,xs,h1,h2,h3,h4,h5,h6,h7⟩ := h
 have hkn : k < H.length := by
  rcases Yd6 k H.length with q | q
  ·exact q
  ·rw [Yd1 q] at hk; cases hk
 refine (Zsj own x lb H.length n k _ v (Ky H).toArray xs th w h4 hkn h6 (J6 hk).1 (J6 hk).2 (by omega) (by omega) (fun e => by rw [e] at h3; omega) h7 hn).mono ?_
 rintro r w' ⟨rfl,hq⟩
 exact ⟨rfl,Zdu.ce (hh:=(0,false)) h1 h2 h3 (Ze h4) h5 (Ze h6) hq⟩
section
attribute [local go_sem] Yd9 Zg Zf
theorem Zhk (n : Int) (h0 : 0 ≤ n) (h1 : n ≤ 4096) (w : World) : Calls Ydz 52 #[.int .i64 n] w fun e w' => e = .returned (.int .i64 n) ∧ w = w' := by
 have e1 : ¬ (4096 < n) := by omega
 by_cases hz : n = 0
 ·subst hz
  go_enter Tryz.func52,Tryz.ntmps52
  go_wp2
  go_ret
  exact ⟨rfl,rfl⟩
 ·have hp : 0 < n := by omega
  clear hz
  go_enter Tryz.func52,Tryz.ntmps52
  go_wp2
  go_ret
  exact ⟨rfl,rfl⟩
theorem Zht (z : Value) (a b : Value) (hz : z.cells = #[a,b]) (n : Nat) : madeCells z.cells (n * 2) = ((Yd2 n [a,b]).flatten).toArray := by
 apply Array.ext_getElem?
 intro i
 simp only [madeCells,hz]
 have key : ∀ (n i : Nat),((Yd2 n [a,b]).flatten)[i]? = if i < n * 2 then some (if i % 2 = 0 then a else b) else none := by
  intro n
  induction n with
  | zero => intro i; simp
  | succ n ih =>
   intro i
   rw [Yel,Yen]
   match i with
   | 0 => rw [if_pos (by omega)]; rfl
   | 1 => rw [if_pos (by omega)]; rfl
   | i + 2 =>
    show ((Yd2 n [a,b]).flatten)[i]? = _
    rw [ih]
    have e : (i + 2) % 2 = i % 2 := by omega
    rw [e]
    by_cases h : i < n * 2
    ·have h2 : i + 2 < (n + 1) * 2 := by omega
     simp only [h,h2,if_true]
    ·have h2 : ¬ (i + 2 < (n + 1) * 2) := by omega
     simp only [h,h2,if_false]
 have hR : (((Yd2 n [a,b]).flatten).toArray)[i]? = ((Yd2 n [a,b]).flatten)[i]? := by simp
 rw [hR,key]
 by_cases h : i < n * 2
 ·rw [if_pos h]
  simp only [Array.getElem?_map,Array.getElem?_range,h,if_true,Option.map_some]
  have : i % 2 = 0 ∨ i % 2 = 1 := by omega
  rcases this with e | e
  ·rw [if_pos e]; simp [e]
  ·rw [if_neg (by omega)]; simp [e]
 ·rw [if_neg h]
  simp [h]
theorem Zqy (n : Nat) : (Yd2 n [Value.int .i64 0,Value.bool false]).flatten = Ky (Yd2 n ((0 : Int),false)) := by
 induction n with
 | zero => rfl
 | succ n ih => rw [Yel,Yen,ih]; rfl
theorem Zyc (n : Nat) (hn : n ≤ 100000) (W : World) : (Instr.makeSlice 134 (.int .i64 (n : Int)) (.int .i64 (n : Int))).run Ydz W = .ok (Sl W.heap.size n) (W.alloc (.cells (Ky (Yd2 n ((0 : Int),false))).toArray 290)) := by
 obtain ⟨i,hi,hz0,hz1,hz2⟩ := info_parts (show (Ydz.info? 290).map (fun i => (i.zero,i.size,i.bytes)) = some (some (.agg #[.int .i64 0,.bool false]),2,16) from by kernel_rfl)
 have := run_makeSlice W 134 290 i _ Tryz.underlying134 hi hz0 .i64 .i64 (n : Int) (n : Int) (by omega) (Int.le_refl _) (by rw [hz1]; simp; omega) (by rw [hz2]; omega) (by omega)
 rw [this,hz1]
 simp only [Int.toNat_natCast]
 rw [Zht _ _ _ rfl,Zqy]
theorem Zya (W : World) : (Instr.makeSlice 25 (.int .i64 1) (.int .i64 1)).run Ydz W = .ok (Sl W.heap.size 1) (W.alloc (.cells #[.int .i64 0] 3)) := Zny 1 (by omega) W
def Zss (own : Nat → Nat) (w : World) (n : Nat) (e : Ending) (w' : World) : Prop := ∃ x own',e = .returned (.pointer (some ⟨x,0,none⟩)) ∧ Ext w own own' ∧ Za6 own' w' x 0 (Yd2 n ((0 : Int),false)) 0 ∧ Zb No w w'
theorem Zqi (own : Nat → Nat) (n : Nat) (hn : n ≤ 1000) (w : World) : Calls Ydz 23 #[.int .i64 1,.int .i64 (n : Int)] w (Zss own w n) := by
 have hm1 := Zya
 have hm2 := Zyc n (by omega)
 have W1 := Ydy (fun W => Zhk 1 (by omega) (by omega) W)
 have W2 := Ydy (fun W => Zhk (n : Int) (by omega) (by omega) W)
 have HQ : Hid (∀ e w',(∃ x own',e = .returned (.pointer (some ⟨x,0,none⟩)) ∧ Ext w own own' ∧ Za6 own' w' x 0 (Yd2 n ((0 : Int),false)) 0 ∧ Zb No w w') → Zss own w n e w') := Ydy (fun _ _ h => h)
 have HL : Hid ((Yd2 n ((0 : Int),false)).length = n) := Ydy (by simp)
 generalize Yd2 n ((0 : Int),false) = H at *
 generalize hfl : (Ky H).toArray = fa at *
 have HF := Ydy hfl
 clear hfl
 go_enter Tryz.func23,Tryz.ntmps23
 go_wp2
 go_region_with (first | (go_at_call 52; refine (W1.out _).mono ?_; rintro e w' ⟨rfl,rfl⟩) | (go_at_call 52; refine (W2.out _).mono ?_; rintro e w' ⟨rfl,rfl⟩))
 all_goals
  go_wp2
  go_ret
  generalize hoi : Obj.cells #[.int .i64 0] 3 = oi
  generalize hof : Obj.cells fa 290 = of
  first
   | (have b0 := Zm (o':=.cells #[Sl w.heap.size 1,Sl (w.heap.size + 1) n,.slice none 0 0] 137) (Zbv w oi of)
      have b1 := Zm (o':=.cells #[Sl w.heap.size 1,Sl (w.heap.size + 1) n,.slice none 0 0] 137) (Kj w oi of)
      have b2 := Kj (w.alloc oi) of (.cells #[Sl w.heap.size 1,Sl (w.heap.size + 1) n,.slice none 0 0] 137)
      rw [show (w.alloc oi).heap.size = w.heap.size + 1 from by simp] at b2
      refine HQ.out _ _ ⟨w.heap.size + 1 + 1,lab (lab (lab own w.heap.size 65) (w.heap.size + 1) 66) (w.heap.size + 1 + 1) 64,rfl,(((Yd4 w own).lab (Yd0 _) _).lab (by omega) _).lab (by omega) _,⟨w.heap.size,w.heap.size + 1,.slice none 0 0,[],Zn _ _ _,by rw [Zq (by omega),Zq (by omega),Zn],by rw [Zq (by omega),Zn],by rw [HL.out]; exact b2,by rw [← hoi] at *; exact b0,by rw [HF.out]; rw [← hof] at *; exact b1,Row.nil _ _ _ _ _⟩,?_⟩
      (repeat (first | with_reducible exact Yd3 _ _ | with_reducible refine Yec ?_ | with_reducible refine Yeb ?_ _ | with_reducible refine Yea ?_ _ | ((with_reducible refine Yd5 ?_ ?_ _); rotate_left; first | exact .inl rfl | exact .inr (Yd0 _) | exact .inl (.inl rfl) | exact .inl (.inr rfl) | exact .inl (.inr (.inl rfl)) | exact .inl (.inr (.inr rfl)) | (focus (right; first | (simp; done) | (simp; omega)))))))
   | (have b0 := Zm (o':=.cells #[Sl (w.heap.size + 1) 1,Sl w.heap.size n,.slice none 0 0] 137) (Zbv w of oi)
      have b1 := Zm (o':=.cells #[Sl (w.heap.size + 1) 1,Sl w.heap.size n,.slice none 0 0] 137) (Kj w of oi)
      have b2 := Kj (w.alloc of) oi (.cells #[Sl (w.heap.size + 1) 1,Sl w.heap.size n,.slice none 0 0] 137)
      rw [show (w.alloc of).heap.size = w.heap.size + 1 from by simp] at b2
      refine HQ.out _ _ ⟨w.heap.size + 1 + 1,lab (lab (lab own w.heap.size 66) (w.heap.size + 1) 65) (w.heap.size + 1 + 1) 64,rfl,(((Yd4 w own).lab (Yd0 _) _).lab (by omega) _).lab (by omega) _,⟨w.heap.size + 1,w.heap.size,.slice none 0 0,[],Zn _ _ _,by rw [Zq (by omega),Zn],by rw [Zq (by omega),Zq (by omega),Zn],by rw [HL.out]; exact b2,by rw [← hoi] at *; exact b1,by rw [HF.out]; rw [← hof] at *; exact b0,Row.nil _ _ _ _ _⟩,?_⟩
      (repeat (first | with_reducible exact Yd3 _ _ | with_reducible refine Yec ?_ | with_reducible refine Yeb ?_ _ | with_reducible refine Yea ?_ _ | ((with_reducible refine Yd5 ?_ ?_ _); rotate_left; first | exact .inl rfl | exact .inr (Yd0 _) | exact .inl (.inl rfl) | exact .inl (.inr rfl) | exact .inl (.inr (.inl rfl)) | exact .inl (.inr (.inr rfl)) | (focus (right; first | (simp; done) | (simp; omega)))))))
def Zfm (b k : Nat) : Array Value := #[.int .i64 0,.int .i64 0,.pointer none,.pointer (some ⟨b,0,none⟩),.pointer (some ⟨b,0,none⟩),.int .i64 (k : Int),.int .i64 0,.int .i64 0]
def Ybx (own : Nat → Nat) (w : World) (x m : Nat) (i : Nat) (wr : World) : Prop :=
 ∃ own' v,∃ ls : List Nat,Ext w own own' ∧ own' x = 30 ∧ own' m = 32 ∧ wr.heap[x]? = some (.cells #[v,.map (some m)] 153 (0,0)) ∧ Row own' 31 wr 154 1 v i (ls.map P0) ∧ ls.length = i ∧ (∀ k b,ls[k]? = some b → own' b = 33 + k ∧ wr.heap[b]? = some (.cells (Zfm b k) 159 (0,0))) ∧ Zs wr m (fun _ => none) 0 ∧ Zb No w wr ∧ w.heap.size ≤ x ∧ w.heap.size ≤ m ∧ (∀ b,v.ownBlock = some b → w.heap.size ≤ b)
def Ybw (own : Nat → Nat) (w : World) (e : Ending) (w' : World) : Prop := ∃ x own',e = .returned (.pointer (some ⟨x,0,none⟩)) ∧ Ext w own own' ∧ X8 own' w' x ⟨[],[],[]⟩ ∧ Zb No w w'
theorem Zqn (own : Nat → Nat) (w : World) : Calls Ydz 31 #[.int .i64 3] w (Ybw own w) := by
 have HQ : Hid (∀ e w',(∃ x own',e = .returned (.pointer (some ⟨x,0,none⟩)) ∧ Ext w own own' ∧ X8 own' w' x ⟨[],[],[]⟩ ∧ Zb No w w') → Ybw own w e w') := Ydy (fun _ _ h => h)
 have hmm := @run_makeMap Ydz
 go_enter Tryz.func31,Tryz.ntmps31
 go_wp2
 have H0 : Hid (Ybx own w (w.heap.size + 1) w.heap.size 0 ((w.alloc (.map #[] 0)).alloc (.cells #[.slice none 0 0,.map (some w.heap.size)] 153))) := Ydy ⟨lab (lab own w.heap.size 32) (w.heap.size + 1) 30,.slice none 0 0,[],((Yd4 w own).lab (Yd0 _) _).lab (by omega) _,Zn _ _ _,by rw [Zq (by omega),Zn],Kj w _ _,Row.nil _ _ _ _ _,rfl,fun k b h => by simp at h,(Zs.made w).alloc _,by (repeat (first | with_reducible exact Yd3 _ _ | with_reducible refine Yec ?_ | with_reducible refine Yeb ?_ _ | with_reducible refine Yea ?_ _ | ((with_reducible refine Yd5 ?_ ?_ _); rotate_left; first | exact .inl rfl | exact .inr (Yd0 _) | exact .inl (.inl rfl) | exact .inl (.inr rfl) | exact .inl (.inr (.inl rfl)) | exact .inl (.inr (.inr rfl)) | (focus (right; first | (simp; done) | (simp; omega)))))),by omega,Yd0 _,fun b hb => by simp [Value.ownBlock] at hb⟩
 generalize hx : w.heap.size + 1 = x at *
 generalize hm : w.heap.size = m at *
 have HX := Ydy hx
 have HM := Ydy hm
 clear hx hm
 go_loopw [12] (fun i wr => ∃ k : Nat,k ≤ 3 ∧ i = .int .i64 (k : Int) ∧ Ybx own w x m k wr) (fun i _ => 3 - (intOf i).toNat)
 case atStart => exact ⟨0,by omega,rfl,H0.out⟩
 case round =>
  obtain ⟨k,hk,rfl,own',v,ls,r1,r2,r3,r4,r5,r6,r7,r8,r9,r10,r11,r12⟩ := hrel
  by_cases hlt : k < 3
  ·have hkb : decide ((k : Int) < 3) = true := by simp; omega
   go_wp2
   go_region_with (fail)
   have hxl := Ze r4
   have hml := r8.lt
   have hB : (.cells #[.int .i64 0,.int .i64 0,.pointer none,.pointer (some ⟨wr.heap.size,0,none⟩),.pointer (some ⟨wr.heap.size,0,none⟩),.int .i64 (k : Int),.int .i64 0,.int .i64 0] 159 : Obj) = .cells (Zfm wr.heap.size k) 159 (0,0) := rfl
   rw [hB]
   have hO1 : Zb No wr (wr.alloc (.cells (Zfm wr.heap.size k) 159 (0,0))).drew := by (repeat (first | with_reducible exact Yd3 _ _ | with_reducible refine Yec ?_ | with_reducible refine Yeb ?_ _ | with_reducible refine Yea ?_ _ | ((with_reducible refine Yd5 ?_ ?_ _); rotate_left; first | exact .inl rfl | exact .inr (Yd0 _) | exact .inl (.inl rfl) | exact .inl (.inr rfl) | exact .inl (.inr (.inl rfl)) | exact .inl (.inr (.inr rfl)) | (focus (right; first | (simp; done) | (simp; omega))))))
   have hE1 : Ext wr own' (lab own' wr.heap.size (33 + k)) := (Yd4 wr own').lab (Yd0 _) _
   have hnb : (wr.alloc (.cells (Zfm wr.heap.size k) 159 (0,0))).drew.heap[wr.heap.size]? = some (.cells (Zfm wr.heap.size k) 159 (0,0)) := Zh wr _
   have hbs : wr.heap.size < (wr.alloc (.cells (Zfm wr.heap.size k) 159 (0,0))).drew.heap.size := Ze hnb
   generalize (wr.alloc (.cells (Zfm wr.heap.size k) 159 (0,0))).drew = w1 at *
   generalize hbb : wr.heap.size = bb at *
   have HBB := Ydy hbb
   have r4b := hO1.kept r4 (fun h => h)
   have c0 : w1.cell? ⟨x,0,none⟩ = some v := Za r4b rfl
   have hx1 := Ze r4b
   have ROW := Ydy (fun o => (r5.kept hE1 hO1 (fun _ _ _ h => h)).kept (Yd4 _ _) ((Yd3 (fun _ => False) w1).alloc o) (fun _ _ _ h => h))
   have hv31 : ∀ b,v.ownBlock = some b → own' b = 31 := fun b hb => r5.2 b hb
   have hvl : ∀ b,v.ownBlock = some b → b < wr.heap.size := fun b hb => r5.lt hb
   have HR : Hid (Ext w own own' ∧ own' x = 30 ∧ own' m = 32 ∧ (∀ k b,ls[k]? = some b → own' b = 33 + k ∧ wr.heap[b]? = some (.cells (Zfm b k) 159 (0,0))) ∧ Zs wr m (fun _ => none) 0 ∧ Zb No w wr ∧ w.heap.size ≤ x ∧ w.heap.size ≤ m) := Ydy ⟨r1,r2,r3,r7,r8,r9,r10,r11⟩
   have H6 := Ydy r6
   have HFR := Ydy r12
   have H4 := Ydy r4b
   have HO1 := Ydy hO1
   have HNB := Ydy hnb
   have HV31 := Ydy hv31
   have HVL := Ydy hvl
   have HE1 := Ydy hE1
   clear r1 r2 r3 r4 r5 r6 r7 r8 r9 r10 r11 r12 hv31 hvl hB hO1 hnb r4b hbb hE1 hmm
   go_wp2_with (at_builtin; refine Xx (by rfl) _ _ _ (by rfl) Yai (by rfl) (ROW.out _) (B:=w1.heap.size) (c:=1) (cs:=#[.pointer (some ⟨bb,0,none⟩)]) (tb:=154) (fr:=(0,0)) (by rfl) (Zh _ _) (by rfl) (by simp [Value.oneCell']) (by omega) ?_; intro g cap w4 q4 g4 hor hsz; have G4 := Ydy g4; have x4 := (g4.block x (by simp; omega) (fun e => by have h1 := HV31.out x e.symm; have h2 := HR.out.2.1; omega)).trans (Zm H4.out); have x5 := Za (j:=0) x4 rfl; have x6 := Zc x4 0; have X4 := Ydy x4; have Q4 := Ydy q4; have OR := Ydy hor; clear g4 q4 hor x4)
   go_roundw
   case rel =>
    obtain ⟨r1,r2,r3,r7,r8,r9,r10,r11⟩ := HR.out
    have hO4 : Zb (fun b => b = x ∨ v.ownBlock = some b) w1 w4 := ((Yd3 _ w1).alloc _).trans ⟨G4.out.os,G4.out.tape,G4.out.output,G4.out.size,fun b hb hn => G4.out.block b hb (fun e => hn (.inr e.symm))⟩
    have hO5 : Zb (fun b => b = x ∨ v.ownBlock = some b) w1 (w4.setCell ⟨x,0,none⟩ (.slice (some ⟨g,0,none⟩) (k + 1) cap)) := hO4.setCell (p:=⟨x,0,none⟩) (.inl (.inl rfl)) _
    have hE4 : Ext w1 (lab own' bb (33 + k)) (ext (lab own' bb (33 + k)) (w1.alloc (.cells #[.pointer (some ⟨bb,0,none⟩)] 154)).heap.size 31) := fun b hb => Zz (by simp; omega)
    have hz := HO1.out.size
    have hEE : Ext wr own' (ext (lab own' bb (33 + k)) (w1.alloc (.cells #[.pointer (some ⟨bb,0,none⟩)] 154)).heap.size 31) := HE1.out.trans hz hE4
    have hO : Zb No w (w4.setCell ⟨x,0,none⟩ (.slice (some ⟨g,0,none⟩) (k + 1) cap)) := (r9.trans HO1.out).then hO5 (fun i hi e => by
     rcases e with e | e
     ·omega
     ·have := HFR.out i e; omega)
    refine ⟨k + 1,by omega,by go_num,_,_,ls ++ [bb],r1.trans r9.size hEE,?_,?_,Zj X4.out 0 _,?_,by rw [List.length_append,H6.out]; rfl,?_,?_,hO,r10,r11,?_⟩
    ·rw [hEE x (by rw [HBB.out]; exact hxl)]; exact r2
    ·rw [hEE m (by rw [HBB.out]; exact hml)]; exact r3
    ·have q := Q4.out.kept (Yd4 _ _) (Yd5 (S:=fun b => b = x) (Yd3 _ w4) (p:=⟨x,0,none⟩) (.inl rfl) (.slice (some ⟨g,0,none⟩) (k + 1) cap)) (fun b hb h31 e => by
      rw [e,hEE x (by rw [HBB.out]; exact hxl)] at h31
      omega)
     rw [List.map_append]
     exact q
    ·intro j b hb
     rcases Yd6 j ls.length with hj | hj
     ·rw [List.getElem?_append_left hj] at hb
      obtain ⟨s1,s2⟩ := r7 j b hb
      have hbl := Ze s2
      refine ⟨by rw [hEE b hbl]; exact s1,hO5.kept (HO1.out.kept s2 (fun h => h)) (fun e => ?_)⟩
      have hj3 : j < 3 := by have := H6.out; omega
      rcases e with e | e
      ·rw [e] at s1; omega
      ·have := HV31.out b e; omega
     ·rw [List.getElem?_append_right hj] at hb
      have hj2 : j = ls.length := by
       rcases Yd6 (j - ls.length) 1 with h | h
       ·omega
       ·rw [Yd1 (by simpa using h)] at hb; cases hb
      subst hj2
      simp only [Nat.sub_self,Yeh,Option.some.injEq] at hb
      subst hb
      refine ⟨?_,?_⟩
      ·rw [hE4 _ hbs,Zn,H6.out]
      ·rw [H6.out]
       refine hO5.kept HNB.out (fun e => ?_)
       rcases e with e | e
       ·omega
       ·have := HVL.out _ e; have := HBB.out; omega
    ·exact (r8.kept HO1.out (fun h => h)).kept hO5 (fun e => by
      rcases e with e | e
      ·rw [e] at r3; omega
      ·have := HV31.out _ e; omega)
    ·intro b hb
     simp only [Value.ownBlock,Option.some.injEq] at hb
     subst hb
     rcases OR.out with e | e
     ·exact HFR.out _ e
     ·have := r9.size; have := HBB.out; rw [e]; simp; omega
   case measure => simp [intOf]; omega
  ·have hk3 : k = 3 := by omega
   subst hk3
   have HFIN : Hid (∃ own',Ext w own own' ∧ X8 own' wr x ⟨[],[],[]⟩ ∧ Zb No w wr) := Ydy (by
    rcases r5.form with ⟨_,h,_⟩ | ⟨g,cap,rfl,hg1,hg2,hg3,hg4,hg5,hg6⟩
    ·cases h
    ·have hget : ∀ j,j < 3 → ∃ b,ls[j]? = some b := fun j hj => ⟨_,List.getElem?_eq_getElem (by omega)⟩
     refine ⟨own',r1,⟨⟨g,m,cap,fun j => ls.getD j 0,fun _ => none⟩,fun _ => [],⟨r2,hg1,r3,r4,fun j hj => ?_,r8,⟨fun j hj => ?_,fun _ _ _ ht => (nomatch ht),fun j hj => ?_,fun j hj => List.nodup_nil,fun _ _ _ _ _ _ ht => (nomatch ht),fun _ _ _ ht => (nomatch ht)⟩,fun _ _ _ ht => (nomatch ht),fun id _ => rfl⟩,rfl⟩,r9⟩
     ·obtain ⟨b,hb⟩ := hget j hj
      have := hg6 j (P0 b) (by rw [List.getElem?_map,hb]; rfl)
      show wr.cell? ⟨g,j,none⟩ = some (P0 (ls.getD j 0))
      rw [Yd8,hb]
      exact this
     ·obtain ⟨b,hb⟩ := hget j hj
      obtain ⟨s1,s2⟩ := r7 j b hb
      show own' (ls.getD j 0) = 33 + j ∧ Ka wr (ls.getD j 0) j 0 0
      rw [Yd8,hb]
      exact ⟨s1,_,_,s2⟩
     ·obtain ⟨b,hb⟩ := hget j hj
      obtain ⟨s1,s2⟩ := r7 j b hb
      show Qy _ _ (ls.getD j 0) [] (ls.getD j 0)
      rw [Yd8,hb]
      exact ⟨Za s2 rfl,Za s2 rfl⟩)
   clear r1 r2 r3 r4 r5 r6 r7 r8 r9 r10 r11 r12 hmm
   go_wp2
   go_ret
   obtain ⟨own1,e3,e4,e5⟩ := HFIN.out
   exact HQ.out _ _ ⟨x,own1,rfl,e3,e4,e5⟩
def Zs0 (own : Nat → Nat) (w : World) (p : Pol) (e : Ending) (w' : World) : Prop := ∃ x l own',e = .returned (Pt x) ∧ Ext w own own' ∧ Zv own' w' x l p ∧ Zb No w w'
def Qg (c : Int) : Int := if c < 0 then 0 else c
theorem Zro (c seed : Int) : Xn c seed = ⟨c,10 * (if c < 1 then 1 else c),Zk1 seed (Yt (if c < 1 then 1 else c) 16 12).toNat,⟨[],[],[]⟩,[],Zbr c,Jv c (Zbr c),⟨0,0,0,Xl c⟩⟩ := rfl
theorem Zg4 (own : Nat → Nat) (cap seed : Int) (hcap : cap ≤ 512) (w : World) : Calls Ydz 9 #[.int .i64 cap,.int .i64 seed] w (Zs0 own w (Xn (Qg cap) seed)) := by
 have hc0 : 0 ≤ Qg cap ∧ Qg cap ≤ 512 := by unfold Qg; split <;> omega
 have hcv : Qg cap = if cap < 0 then 0 else cap := rfl
 rw [Zro]
 generalize hn : (if Qg cap < 1 then 1 else Qg cap) = n at *
 have hn1 : 1 ≤ n ∧ n ≤ 512 := by rw [← hn]; split <;> omega
 have F := Ydy (Znd own n hn1.2 seed w)
 generalize Zk1 seed (Yt n 16 12).toNat = f at *
 have D := Ydy (fun own1 w1 => Zqn own1 w1)
 have Q := Ydy (fun W => Zve (Qg cap) hc0.1 (by omega) W)
 have C := Ydy (fun W => Zqk (Qg cap) hc0.1 (by omega) W)
 have HQ : Hid (∀ e w',(∃ x l own',e = .returned (Pt x) ∧ Ext w own own' ∧ Zv own' w' x l ⟨Qg cap,10 * n,f,⟨[],[],[]⟩,[],Zbr (Qg cap),Jv (Qg cap) (Zbr (Qg cap)),⟨0,0,0,Xl (Qg cap)⟩⟩ ∧ Zb No w w') → Zs0 own w ⟨Qg cap,10 * n,f,⟨[],[],[]⟩,[],Zbr (Qg cap),Jv (Qg cap) (Zbr (Qg cap)),⟨0,0,0,Xl (Qg cap)⟩⟩ e w') := Ydy (fun _ _ h => h)
 generalize Zbr (Qg cap) = wv at *
 generalize Jv (Qg cap) wv = pv at *
 generalize Xl (Qg cap) = fv at *
 generalize hcc : Qg cap = c at *
 have hmm := @run_makeMap Ydz
 obtain ⟨hn2,hn3⟩ := hn1
 obtain ⟨hc1,hc2⟩ := hc0
 by_cases h1 : cap < 0
 ·rw [if_pos h1] at hcv
  subst hcv
  rw [if_pos (by omega)] at hn
  subst hn
  go_enter Yej,Yei
  go_wp2_with fail
  refine (F.out).mono ?_
  rintro e w1 ⟨fx,fl,own1,rfl,a1,a2,a3⟩
  have A := Ydy (⟨a1,a2,a3⟩ : Ext w own own1 ∧ Za7 own1 w1 fx fl f ∧ Zb No w w1)
  clear a1 a2 a3
  go_wp2_with fail
  refine (D.out own1 w1).mono ?_
  rintro e w2 ⟨dx,own2,rfl,b1,b2,b3⟩
  have B := Ydy (⟨b1,b2,b3⟩ : Ext w1 own1 own2 ∧ X8 own2 w2 dx ⟨[],[],[]⟩ ∧ Zb No w1 w2)
  clear b1 b2 b3
  go_wp2_with fail
  refine (Q.out _).mono ?_
  rintro e w4 ⟨rfl,o4⟩
  have O4 := Ydy o4
  clear o4
  go_wp2_with fail
  refine (C.out _).mono ?_
  rintro e w5 ⟨rfl,o5⟩
  have O5 := Ydy o5
  clear o5
  unfold clA
  go_wp2
  go_ret
  obtain ⟨a1,a2,a3⟩ := A.out
  obtain ⟨b1,b2,b3⟩ := B.out
  have o1 : Zb No w2 w5 := ((Yd3 No w2).alloc _).trans (O4.out.trans O5.out)
  have hz : w2.heap.size < w5.heap.size := by have := (O4.out.trans O5.out).size; simp at this; omega
  have hm : Zs w5 w2.heap.size (fun _ => none) 0 := (Zs.made w2).kept (O4.out.trans O5.out) (fun h => h)
  have hE : Ext w own (lab (lab own2 w2.heap.size 39) w5.heap.size 20) := ((a1.trans a3.size b1).lab (a3.trans b3).size _).lab ((a3.trans b3).trans o1).size _
  have hE2 : Ext w2 own2 (lab (lab own2 w2.heap.size 39) w5.heap.size 20) := ((Yd4 w2 own2).lab (Yd0 _) _).lab (Yee hz) _
  have hE1 : Ext w1 own1 (lab (lab own2 w2.heap.size 39) w5.heap.size 20) := fun b hb => (hE2 b (Yd7 hb b3.size)).trans (b1 b hb)
  refine HQ.out _ _ ⟨w5.heap.size,⟨fx,fl,dx,w2.heap.size⟩,lab (lab own2 w2.heap.size 39) w5.heap.size 20,rfl,hE,⟨Zn _ _ _,?_,Zh w5 _,a2.kept hE1 ((b3.trans o1).alloc _) (fun _ _ _ h => h),b2.kept hE2 (o1.alloc _) (fun _ _ _ _ h => h),?_⟩,((a3.trans b3).trans o1).alloc _⟩
  ·show lab _ _ _ w2.heap.size = 39
   rw [Zq (by omega),Zn]
  ·exact (hm.alloc _).eq (fun _ _ => rfl)
 ·rw [if_neg h1] at hcv
  subst hcv
  by_cases h2 : c < 1
  ·rw [if_pos h2] at hn
   subst hn
   obtain rfl : c = 0 := by omega
   go_enter Yej,Yei
   go_wp2_with fail
   refine (F.out).mono ?_
   rintro e w1 ⟨fx,fl,own1,rfl,a1,a2,a3⟩
   have A := Ydy (⟨a1,a2,a3⟩ : Ext w own own1 ∧ Za7 own1 w1 fx fl f ∧ Zb No w w1)
   clear a1 a2 a3
   go_wp2_with fail
   refine (D.out own1 w1).mono ?_
   rintro e w2 ⟨dx,own2,rfl,b1,b2,b3⟩
   have B := Ydy (⟨b1,b2,b3⟩ : Ext w1 own1 own2 ∧ X8 own2 w2 dx ⟨[],[],[]⟩ ∧ Zb No w1 w2)
   clear b1 b2 b3
   go_wp2_with fail
   refine (Q.out _).mono ?_
   rintro e w4 ⟨rfl,o4⟩
   have O4 := Ydy o4
   clear o4
   go_wp2_with fail
   refine (C.out _).mono ?_
   rintro e w5 ⟨rfl,o5⟩
   have O5 := Ydy o5
   clear o5
   unfold clA
   go_wp2
   go_ret
   obtain ⟨a1,a2,a3⟩ := A.out
   obtain ⟨b1,b2,b3⟩ := B.out
   have o1 : Zb No w2 w5 := ((Yd3 No w2).alloc _).trans (O4.out.trans O5.out)
   have hz : w2.heap.size < w5.heap.size := by have := (O4.out.trans O5.out).size; simp at this; omega
   have hm : Zs w5 w2.heap.size (fun _ => none) 0 := (Zs.made w2).kept (O4.out.trans O5.out) (fun h => h)
   have hE : Ext w own (lab (lab own2 w2.heap.size 39) w5.heap.size 20) := ((a1.trans a3.size b1).lab (a3.trans b3).size _).lab ((a3.trans b3).trans o1).size _
   have hE2 : Ext w2 own2 (lab (lab own2 w2.heap.size 39) w5.heap.size 20) := ((Yd4 w2 own2).lab (Yd0 _) _).lab (Yee hz) _
   have hE1 : Ext w1 own1 (lab (lab own2 w2.heap.size 39) w5.heap.size 20) := fun b hb => (hE2 b (Yd7 hb b3.size)).trans (b1 b hb)
   refine HQ.out _ _ ⟨w5.heap.size,⟨fx,fl,dx,w2.heap.size⟩,lab (lab own2 w2.heap.size 39) w5.heap.size 20,rfl,hE,⟨Zn _ _ _,?_,Zh w5 _,a2.kept hE1 ((b3.trans o1).alloc _) (fun _ _ _ h => h),b2.kept hE2 (o1.alloc _) (fun _ _ _ _ h => h),?_⟩,((a3.trans b3).trans o1).alloc _⟩
   ·show lab _ _ _ w2.heap.size = 39
    rw [Zq (by omega),Zn]
   ·exact (hm.alloc _).eq (fun _ _ => rfl)
  ·rw [if_neg h2] at hn
   subst hn
   by_cases h3 : c = 1
   ·subst h3
    go_enter Yej,Yei
    go_wp2_with fail
    refine (F.out).mono ?_
    rintro e w1 ⟨fx,fl,own1,rfl,a1,a2,a3⟩
    have A := Ydy (⟨a1,a2,a3⟩ : Ext w own own1 ∧ Za7 own1 w1 fx fl f ∧ Zb No w w1)
    clear a1 a2 a3
    go_wp2_with fail
    refine (D.out own1 w1).mono ?_
    rintro e w2 ⟨dx,own2,rfl,b1,b2,b3⟩
    have B := Ydy (⟨b1,b2,b3⟩ : Ext w1 own1 own2 ∧ X8 own2 w2 dx ⟨[],[],[]⟩ ∧ Zb No w1 w2)
    clear b1 b2 b3
    go_wp2_with fail
    refine (Q.out _).mono ?_
    rintro e w4 ⟨rfl,o4⟩
    have O4 := Ydy o4
    clear o4
    go_wp2_with fail
    refine (C.out _).mono ?_
    rintro e w5 ⟨rfl,o5⟩
    have O5 := Ydy o5
    clear o5
    unfold clA
    go_wp2
    go_ret
    obtain ⟨a1,a2,a3⟩ := A.out
    obtain ⟨b1,b2,b3⟩ := B.out
    have o1 : Zb No w2 w5 := ((Yd3 No w2).alloc _).trans (O4.out.trans O5.out)
    have hz : w2.heap.size < w5.heap.size := by have := (O4.out.trans O5.out).size; simp at this; omega
    have hm : Zs w5 w2.heap.size (fun _ => none) 0 := (Zs.made w2).kept (O4.out.trans O5.out) (fun h => h)
    have hE : Ext w own (lab (lab own2 w2.heap.size 39) w5.heap.size 20) := ((a1.trans a3.size b1).lab (a3.trans b3).size _).lab ((a3.trans b3).trans o1).size _
    have hE2 : Ext w2 own2 (lab (lab own2 w2.heap.size 39) w5.heap.size 20) := ((Yd4 w2 own2).lab (Yd0 _) _).lab (Yee hz) _
    have hE1 : Ext w1 own1 (lab (lab own2 w2.heap.size 39) w5.heap.size 20) := fun b hb => (hE2 b (Yd7 hb b3.size)).trans (b1 b hb)
    refine HQ.out _ _ ⟨w5.heap.size,⟨fx,fl,dx,w2.heap.size⟩,lab (lab own2 w2.heap.size 39) w5.heap.size 20,rfl,hE,⟨Zn _ _ _,?_,Zh w5 _,a2.kept hE1 ((b3.trans o1).alloc _) (fun _ _ _ h => h),b2.kept hE2 (o1.alloc _) (fun _ _ _ _ h => h),?_⟩,((a3.trans b3).trans o1).alloc _⟩
    ·show lab _ _ _ w2.heap.size = 39
     rw [Zq (by omega),Zn]
    ·exact (hm.alloc _).eq (fun _ _ => rfl)
   ·have h4 : 1 < c := by omega
    clear h3
    go_enter Yej,Yei
    go_wp2_with fail
    refine (F.out).mono ?_
    rintro e w1 ⟨fx,fl,own1,rfl,a1,a2,a3⟩
    have A := Ydy (⟨a1,a2,a3⟩ : Ext w own own1 ∧ Za7 own1 w1 fx fl f ∧ Zb No w w1)
    clear a1 a2 a3
    go_wp2_with fail
    refine (D.out own1 w1).mono ?_
    rintro e w2 ⟨dx,own2,rfl,b1,b2,b3⟩
    have B := Ydy (⟨b1,b2,b3⟩ : Ext w1 own1 own2 ∧ X8 own2 w2 dx ⟨[],[],[]⟩ ∧ Zb No w1 w2)
    clear b1 b2 b3
    go_wp2_with fail
    refine (Q.out _).mono ?_
    rintro e w4 ⟨rfl,o4⟩
    have O4 := Ydy o4
    clear o4
    go_wp2_with fail
    refine (C.out _).mono ?_
    rintro e w5 ⟨rfl,o5⟩
    have O5 := Ydy o5
    clear o5
    unfold clA
    go_wp2
    go_ret
    obtain ⟨a1,a2,a3⟩ := A.out
    obtain ⟨b1,b2,b3⟩ := B.out
    have o1 : Zb No w2 w5 := ((Yd3 No w2).alloc _).trans (O4.out.trans O5.out)
    have hz : w2.heap.size < w5.heap.size := by have := (O4.out.trans O5.out).size; simp at this; omega
    have hm : Zs w5 w2.heap.size (fun _ => none) 0 := (Zs.made w2).kept (O4.out.trans O5.out) (fun h => h)
    have hE : Ext w own (lab (lab own2 w2.heap.size 39) w5.heap.size 20) := ((a1.trans a3.size b1).lab (a3.trans b3).size _).lab ((a3.trans b3).trans o1).size _
    have hE2 : Ext w2 own2 (lab (lab own2 w2.heap.size 39) w5.heap.size 20) := ((Yd4 w2 own2).lab (Yd0 _) _).lab (Yee hz) _
    have hE1 : Ext w1 own1 (lab (lab own2 w2.heap.size 39) w5.heap.size 20) := fun b hb => (hE2 b (Yd7 hb b3.size)).trans (b1 b hb)
    refine HQ.out _ _ ⟨w5.heap.size,⟨fx,fl,dx,w2.heap.size⟩,lab (lab own2 w2.heap.size 39) w5.heap.size 20,rfl,hE,⟨Zn _ _ _,?_,Zh w5 _,a2.kept hE1 ((b3.trans o1).alloc _) (fun _ _ _ h => h),b2.kept hE2 (o1.alloc _) (fun _ _ _ _ h => h),?_⟩,((a3.trans b3).trans o1).alloc _⟩
    ·show lab _ _ _ w2.heap.size = 39
     rw [Zq (by omega),Zn]
    ·exact (hm.alloc _).eq (fun _ _ => rfl)
end
structure ML where
 p : Nat
 ex : Nat
 el : Ya
 px : Nat
 pl : Yb
 rx : Nat
 rv : Value
 rxs : Nat → Nat
 rcs : Nat → Nat
 wx : Nat
 wm : Nat
 wn : Nat
 cx : Nat
 cn : Nat
 km : Nat
 rec_ : Value
 evv : Value
 tx : Nat → Nat
 pv : Nat → Value
 vv : Nat → Value
def Vd (c : Com) : List Value := [.int .i64 c.d,.int .i64 c.k,.int .i64 c.v,.bool c.h]
def V8 (r : Rec) : List Value := [.int .i64 r.t,.int .i64 r.o,.int .i64 r.a,.int .i64 r.c.d,.int .i64 r.c.k,.int .i64 r.c.v,.bool r.c.h,.int .i64 r.e]
def Z5 (l : List Rec) : List Value := l.flatMap V8
def opF (o : Op) : List Value := [.int .i64 o.d,.int .i64 o.k,.int .i64 o.v,.int .i64 o.w]
def Jr (l : List Op) : List Value := l.flatMap opF
def Zaa (own : Nat → Nat) (w : World) (v : Value) (l : List Int) : Prop :=
 (v = .slice none 0 0 ∧ l = []) ∨ ∃ g off cap,v = .slice (some ⟨g,off,none⟩) l.length cap ∧ l.length ≤ cap ∧ own g = 8 ∧ g < w.heap.size ∧ ∀ (j : Nat) (z : Int),l[j]? = some z → w.cell? ⟨g,off + j,none⟩ = some (.int .i64 z)
theorem Zaa.kept {own : Nat → Nat} {l : List Int} (h : Zaa own w v l) (he : Ext w own own') (ho : Zb S w w') (hS : ∀ b,b < w.heap.size → own b = 8 → ¬ S b) : Zaa own' w' v l := by
 rcases h with h | ⟨g,off,cap,h1,h2,h3,h4,h5⟩
 ·exact .inl h
 ·exact .inr ⟨g,off,cap,h1,h2,(he g h4).trans h3,Yd7 h4 ho.size,fun j z hz => Zd (h5 j z hz) ho (hS g h4 h3)⟩
def thC (L : ML) (i : Nat) (t : Th) : Obj := .cells #[Pt L.p,.int .i64 (i : Int),L.pv i,.int .i64 (t.op : Int),.int .i64 t.ph,.int .i64 t.com.d,.int .i64 t.com.k,.int .i64 t.com.v,.bool t.com.h,.int .i64 t.err,.int .i64 t.node,.int .i64 t.back,L.vv i] 74
structure Zs8 (own : Nat → Nat) (w : World) (L : ML) (i : Nat) (t : Th) : Prop where
 ox : own (L.tx i) = 70 + i
 block : w.heap[L.tx i]? = some (thC L i t)
 prog : Row own 9 w 44 4 (L.pv i) t.prog.length (Jr t.prog)
 vic : Zaa own w (L.vv i) t.vic
def paC (L : ML) (s : St) : Obj := .cells #[.int .i64 s.cap,Pt L.ex,Pt L.px,Pt L.rx,Pt L.wx,Pt L.cx,.map (some L.km),L.rec_,L.evv] 63
structure MAt (own : Nat → Nat) (w : World) (L : ML) (s : St) : Prop where
 op : own L.p = 0
 parts : w.heap[L.p]? = some (paC L s)
 sh : Y4 own w L.ex L.el s.sh
 pol : Zv own w L.px L.pl s.pol
 st : Ju own w L.rx L.rv L.rxs L.rcs s.seed s.rings
 wr : Kx own w L.wx L.wm L.wn s.wr
 ce : Za6 own w L.cx s.status s.locks L.cn
 okm : own L.km = 4
 keys : Zs w L.km (kf s.keys) s.keys.length
 recs : Row own 5 w 98 8 L.rec_ s.recs.length (Z5 s.recs)
 evs : Row own 6 w 93 4 L.evv s.evs.length (Qu s.evs)
 few : s.ths.length ≤ 64
 ths : ∀ (i : Nat) (t : Th),s.ths[i]? = some t → Zs8 own w L i t
def NG (own : Nat → Nat) : Nat → Prop := fun b => own b ≠ 19
theorem Ju.kept {own : Nat → Nat} {xs cs : Nat → Nat} {seed : Int} (h : Ju own w x v xs cs seed rs) (he : Ext w own own') (ho : Zb S w w') (hS : ∀ b,b < w.heap.size → own b = 50 ∨ own b = 51 ∨ (2000 ≤ own b ∧ own b ≤ 2127) → ¬ S b) : Ju own' w' x v xs cs seed rs := by
 have hx := Ze h.block
 have hf := h.few
 refine ⟨(he _ hx).trans h.ox,ho.kept h.block (hS _ hx (.inl h.ox)),h.row.kept he ho (fun b hb e => hS b hb (.inr (.inl e))),fun i r hr => ?_,h.some_,h.few⟩
 have hi : i < rs.length := by
  rcases Yd6 i rs.length with a | a
  ·exact a
  ·rw [Yd1 a] at hr; cases hr
 exact (h.ring i r hr).kept he ho (fun b hb e => hS b hb (.inr (.inr (by omega))))
theorem Zs8.kept {own : Nat → Nat} {L : ML} (h : Zs8 own w L i t) (he : Ext w own own') (ho : Zb S w w') (h1 : ∀ b,b < w.heap.size → own b = 70 + i → ¬ S b) (h2 : ∀ b,b < w.heap.size → own b = 9 → ¬ S b) (h3 : ∀ b,b < w.heap.size → own b = 8 → ¬ S b) : Zs8 own' w' L i t := by
 have hx := Ze h.block
 exact ⟨(he _ hx).trans h.ox,ho.kept h.block (h1 _ hx h.ox),h.prog.kept he ho h2,h.vic.kept he ho h3⟩
structure Ydx (own own' : Nat → Nat) (w w' : World) (C : Nat → Prop) : Prop where
 ext : Ext w own own'
 only : Zb (fun b => C (own b)) w w'
theorem Zat {own : Nat → Nat} {L : ML} (h : MAt own w L s) (ht : s.ths[i]? = some t) : i < 64 := by
 have := h.few
 rcases Yd6 i s.ths.length with a | a
 ·omega
 ·rw [Yd1 a] at ht; cases ht
theorem MAt.kept {own : Nat → Nat} {L : ML} (h : MAt own w L s) (he : Ext w own own') (ho : Zb S w w') (hS : ∀ b,b < w.heap.size → (own b = 0 ∨ own b = 4 ∨ own b = 5 ∨ own b = 6 ∨ own b = 8 ∨ own b = 9 ∨ (20 ≤ own b ∧ own b < 40) ∨ ShL own b ∨ own b = 50 ∨ own b = 51 ∨ (2000 ≤ own b ∧ own b ≤ 2127) ∨ own b = 60 ∨ own b = 61 ∨ (64 ≤ own b ∧ own b < 68) ∨ (70 ≤ own b ∧ own b < 134)) → ¬ S b) : MAt own' w' L s := by
 have hp := Ze h.parts
 have hk := h.keys.lt
 have o4 := h.okm
 have o0 := h.op
 refine ⟨(he _ hp).trans h.op,ho.kept h.parts (hS _ hp (by omega)),h.sh.kept he ho (fun b hb e => hS b hb (.inr (.inr (.inr (.inr (.inr (.inr (.inr (.inl e)))))))) ),h.pol.kept he ho (fun b hb h1 h2 => hS b hb (by omega)),h.st.kept he ho (fun b hb e => hS b hb (by omega)),h.wr.kept he ho (fun b hb e => hS b hb (by omega)),h.ce.kept he ho (fun b hb h1 h2 => hS b hb (by omega)),(he _ hk).trans h.okm,h.keys.kept ho (hS _ hk (by omega)),h.recs.kept he ho (fun b hb e => hS b hb (by omega)),h.evs.kept he ho (fun b hb e => hS b hb (by omega)),h.few,fun i t ht => ?_⟩
 have hi := Zat h ht
 exact (h.ths i t ht).kept he ho (fun b hb e => hS b hb (by omega)) (fun b hb e => hS b hb (by omega)) (fun b hb e => hS b hb (by omega))
theorem MAt.sm {own : Nat → Nat} {L : ML} (h : MAt own w L s) (hs : Sm w w') : MAt own w' L s := h.kept (Yd4 _ _) hs.only (fun _ _ _ h => (h : False))
theorem MAt.no {own : Nat → Nat} {L : ML} (h : MAt own w L s) (hs : Zb No w w') : MAt own w' L s := h.kept (Yd4 _ _) hs (fun _ _ _ h => (h : False))
theorem MAt.cells {own : Nat → Nat} {L : ML} (h : MAt own w L s) (he : Ext w own own') (ho : Zb (Own own 64 68) w w') {st : Int} (hc : Za6 own' w' L.cx st H n) : MAt own' w' { L with cn := n } { s with status := st,locks := H } := by
 have hp := Ze h.parts
 have hk := h.keys.lt
 have o4 := h.okm
 have o0 := h.op
 have hn : ∀ b,own b < 20 → ¬ Own own 64 68 b := fun b h e => by have := e.1; omega
 refine ⟨(he _ hp).trans h.op,ho.kept h.parts (hn L.p (by omega)),h.sh.kept he ho (fun b hb e e' => by have h1 := e'.1; have h2 := e'.2; unfold ShL at e; omega),h.pol.kept he ho (fun b hb h1 h2 e' => by have h1 := e'.1; omega),h.st.kept he ho (fun b hb e e' => by have h1 := e'.1; have h2 := e'.2; omega),h.wr.kept he ho (fun b hb e e' => by have h1 := e'.1; omega),hc,(he _ hk).trans h.okm,h.keys.kept ho (hn L.km (by omega)),h.recs.kept he ho (fun b hb e e' => by have h1 := e'.1; omega),h.evs.kept he ho (fun b hb e e' => by have h1 := e'.1; omega),h.few,fun i t ht => ?_⟩
 have q := (h.ths i t ht).kept he ho (fun b hb e e' => by have h2 := e'.2; omega) (fun b hb e e' => by have h1 := e'.1; omega) (fun b hb e e' => by have h1 := e'.1; omega)
 exact ⟨q.ox,q.block,q.prog,q.vic⟩
theorem MAt.shards {own : Nat → Nat} {L : ML} (h : MAt own w L s) (he : Ext w own own') (ho : Zb (ShL own) w w') {el : Ya} {sh : Sh} (hc : Y4 own' w' L.ex el sh) : MAt own' w' { L with el := el } { s with sh := sh } := by
 have hp := Ze h.parts
 have hk := h.keys.lt
 have o4 := h.okm
 have o0 := h.op
 have hn : ∀ b,own b < 20 → ¬ ShL own b := fun b h e => by unfold ShL at e; omega
 refine ⟨(he _ hp).trans h.op,ho.kept h.parts (hn L.p (by omega)),hc,h.pol.kept he ho (fun b hb h1 h2 e' => by unfold ShL at e'; omega),h.st.kept he ho (fun b hb e e' => by unfold ShL at e'; omega),h.wr.kept he ho (fun b hb e e' => by unfold ShL at e'; omega),h.ce.kept he ho (fun b hb h1 h2 e' => by unfold ShL at e'; omega),(he _ hk).trans h.okm,h.keys.kept ho (hn L.km (by omega)),h.recs.kept he ho (fun b hb e e' => by unfold ShL at e'; omega),h.evs.kept he ho (fun b hb e e' => by unfold ShL at e'; omega),h.few,fun i t ht => ?_⟩
 have hi := Zat h ht
 have q := (h.ths i t ht).kept he ho (fun b hb e e' => by unfold ShL at e'; omega) (fun b hb e e' => by unfold ShL at e'; omega) (fun b hb e e' => by unfold ShL at e'; omega)
 exact ⟨q.ox,q.block,q.prog,q.vic⟩
theorem MAt.policy {own : Nat → Nat} {L : ML} (h : MAt own w L s) (he : Ext w own own') (ho : Zb (Kb own) w w') {pol : Pol} (hc : Zv own' w' L.px L.pl pol) : MAt own' w' L { s with pol := pol } := by
 have hp := Ze h.parts
 have hk := h.keys.lt
 have o4 := h.okm
 have o0 := h.op
 have hn : ∀ b,own b < 20 → ¬ Kb own b := fun b h e => by have e' : 20 ≤ own b ∧ own b < 40 := e; omega
 have hq : ∀ b,Kb own b → 20 ≤ own b ∧ own b < 40 := fun b e => e
 refine ⟨(he _ hp).trans h.op,ho.kept h.parts (hn L.p (by omega)),h.sh.kept he ho (fun b hb e e' => by have := hq _ e'; unfold ShL at e; omega),hc,h.st.kept he ho (fun b hb e e' => by have := hq _ e'; omega),h.wr.kept he ho (fun b hb e e' => by have := hq _ e'; omega),h.ce.kept he ho (fun b hb h1 h2 e' => by have := hq _ e'; omega),(he _ hk).trans h.okm,h.keys.kept ho (hn L.km (by omega)),h.recs.kept he ho (fun b hb e e' => by have := hq _ e'; omega),h.evs.kept he ho (fun b hb e e' => by have := hq _ e'; omega),h.few,fun i t ht => ?_⟩
 have q := (h.ths i t ht).kept he ho (fun b hb e e' => by have := hq _ e'; omega) (fun b hb e e' => by have := hq _ e'; omega) (fun b hb e e' => by have := hq _ e'; omega)
 exact ⟨q.ox,q.block,q.prog,q.vic⟩
theorem MAt.stripes {own : Nat → Nat} {L : ML} (h : MAt own w L s) (he : Ext w own own') (ho : Zb (Zmu own) w w') (hc : Ju own' w' L.rx L.rv L.rxs L.rcs s.seed rs) : MAt own' w' L { s with rings := rs } := by
 have hp := Ze h.parts
 have hk := h.keys.lt
 have o4 := h.okm
 have o0 := h.op
 have hn : ∀ b,own b < 20 → ¬ Zmu own b := fun b h e => by have e' : 2000 ≤ own b ∧ own b ≤ 2127 := e; omega
 have hq : ∀ b,Zmu own b → 2000 ≤ own b ∧ own b ≤ 2127 := fun b e => e
 refine ⟨(he _ hp).trans h.op,ho.kept h.parts (hn L.p (by omega)),h.sh.kept he ho (fun b hb e e' => by have := hq _ e'; unfold ShL at e; omega),h.pol.kept he ho (fun b hb h1 h2 e' => by have := hq _ e'; omega),hc,h.wr.kept he ho (fun b hb e e' => by have := hq _ e'; omega),h.ce.kept he ho (fun b hb h1 h2 e' => by have := hq _ e'; omega),(he _ hk).trans h.okm,h.keys.kept ho (hn L.km (by omega)),h.recs.kept he ho (fun b hb e e' => by have := hq _ e'; omega),h.evs.kept he ho (fun b hb e e' => by have := hq _ e'; omega),h.few,fun i t ht => ?_⟩
 have hi := Zat h ht
 have q := (h.ths i t ht).kept he ho (fun b hb e e' => by have := hq _ e'; omega) (fun b hb e e' => by have := hq _ e'; omega) (fun b hb e e' => by have := hq _ e'; omega)
 exact ⟨q.ox,q.block,q.prog,q.vic⟩
theorem MAt.writes {own : Nat → Nat} {L : ML} (h : MAt own w L s) (he : Ext w own own') (ho : Zb (WrL own) w w') {b : Wr} (hc : Kx own' w' L.wx L.wm n b) : MAt own' w' { L with wn := n } { s with wr := b } := by
 have hp := Ze h.parts
 have hk := h.keys.lt
 have o4 := h.okm
 have o0 := h.op
 have hn : ∀ b,own b < 20 → ¬ WrL own b := fun b h e => by have e' : own b = 60 ∨ own b = 61 := e; omega
 have hq : ∀ b,WrL own b → own b = 60 ∨ own b = 61 := fun b e => e
 refine ⟨(he _ hp).trans h.op,ho.kept h.parts (hn L.p (by omega)),h.sh.kept he ho (fun b hb e e' => by have := hq _ e'; unfold ShL at e; omega),h.pol.kept he ho (fun b hb h1 h2 e' => by have := hq _ e'; omega),h.st.kept he ho (fun b hb e e' => by have := hq _ e'; omega),hc,h.ce.kept he ho (fun b hb h1 h2 e' => by have := hq _ e'; omega),(he _ hk).trans h.okm,h.keys.kept ho (hn L.km (by omega)),h.recs.kept he ho (fun b hb e e' => by have := hq _ e'; omega),h.evs.kept he ho (fun b hb e e' => by have := hq _ e'; omega),h.few,fun i t ht => ?_⟩
 have q := (h.ths i t ht).kept he ho (fun b hb e e' => by have := hq _ e'; omega) (fun b hb e e' => by have := hq _ e'; omega) (fun b hb e e' => by have := hq _ e'; omega)
 exact ⟨q.ox,q.block,q.prog,q.vic⟩
theorem MAt.thread {own : Nat → Nat} {L L' : ML} (h : MAt own w L s) {t' : Th} (ht : s.ths[i]? = some t) (he : Ext w own own') (ho : Zb (fun b => b = L.tx i) w w') (hL : L' = { L with vv := fun j => if j = i then L'.vv i else L.vv j }) (hb : w'.heap[L.tx i]? = some (thC L' i t')) (hp' : t'.prog = t.prog) (hv : Zaa own' w' (L'.vv i) t'.vic) : MAt own' w' L' (Zl s i t') := by
 have T := h.ths i t ht
 have hp := Ze h.parts
 have hk := h.keys.lt
 have o4 := h.okm
 have o0 := h.op
 have hi := Zat h ht
 have ox := T.ox
 have e1 : L'.p = L.p := by rw [hL]
 have e2 : L'.tx = L.tx := by rw [hL]
 have e3 : L'.pv = L.pv := by rw [hL]
 have hpc : paC L' (Zl s i t') = paC L s := by rw [hL]; rfl
 have far : ∀ b,own b ≠ 70 + i → b ≠ L.tx i := fun b hb e => by rw [e] at hb; exact hb ox
 have hothers : ∀ (j : Nat) (u : Th),j ≠ i → s.ths[j]? = some u → Zs8 own' w' L' j u := fun j u hj hu => by
  have U := (h.ths j u hu).kept he ho (fun b hb e => far b (by omega)) (fun b hb e => far b (by omega)) (fun b hb e => far b (by omega))
  have hvj : L'.vv j = L.vv j := by rw [hL]; simp only; rw [if_neg hj]
  refine ⟨by rw [e2]; exact U.ox,?_,by rw [e3]; exact U.prog,by rw [hvj]; exact U.vic⟩
  have : thC L' j u = thC L j u := by unfold thC; rw [e1,e3,hvj]
  rw [this,e2]
  exact U.block
 refine ⟨by rw [e1]; exact (he _ hp).trans h.op,by rw [hpc,e1]; exact ho.kept h.parts (far _ (by omega)),?_,?_,?_,?_,?_,?_,?_,?_,?_,by show (s.ths.set i t').length ≤ 64; rw [List.length_set]; exact h.few,fun j u hu => ?_⟩
 ·rw [hL]; exact h.sh.kept he ho (fun b hb e => far b (by unfold ShL at e; omega))
 ·rw [hL]; exact h.pol.kept he ho (fun b hb h1 h2 => far b (by omega))
 ·rw [hL]; exact h.st.kept he ho (fun b hb e => far b (by omega))
 ·rw [hL]; exact h.wr.kept he ho (fun b hb e => far b (by omega))
 ·rw [hL]; exact h.ce.kept he ho (fun b hb h1 h2 => far b (by omega))
 ·rw [hL]; exact (he _ hk).trans h.okm
 ·rw [hL]; exact h.keys.kept ho (far _ (by omega))
 ·rw [hL]; exact h.recs.kept he ho (fun b hb e => far b (by omega))
 ·rw [hL]; exact h.evs.kept he ho (fun b hb e => far b (by omega))
 ·have hu' : (s.ths.set i t')[j]? = some u := hu
  by_cases hj : j = i
  ·subst hj
   have hlt : j < s.ths.length := by
    rcases Yd6 j s.ths.length with a | a
    ·exact a
    ·rw [Yd1 a] at ht; cases ht
   rw [Yeo,if_pos rfl,if_pos hlt] at hu'
   cases hu'
   refine ⟨by rw [e2]; exact (he _ (Ze T.block)).trans T.ox,by rw [e2]; exact hb,?_,hv⟩
   rw [hp',e3]
   exact T.prog.kept he ho (fun b hb e => far b (by omega))
  ·rw [Yeo,if_neg (fun e => hj e.symm)] at hu'
   exact hothers j u hj hu'
section
attribute [local go_sem] Yd9 Zg Zf
theorem MAt.own {own : Nat → Nat} {L L' : ML} {s' : St} (h : MAt own w L s) (he : Ext w own own') (ho : Zb S w w') (hS : ∀ b,b < w.heap.size → S b → own b = 0 ∨ own b = 4 ∨ own b = 5 ∨ own b = 6) (hL : L' = { L with rec_ := L'.rec_,evv := L'.evv }) (hs : s' = { s with keys := s'.keys,recs := s'.recs,evs := s'.evs })
  (hp : w'.heap[L.p]? = some (paC L' s')) (hk : Zs w' L.km (kf s'.keys) s'.keys.length) (hr : Row own' 5 w' 98 8 L'.rec_ s'.recs.length (Z5 s'.recs)) (hv : Row own' 6 w' 93 4 L'.evv s'.evs.length (Qu s'.evs)) : MAt own' w' L' s' := by
 have hpl := Ze h.parts
 have hkl := h.keys.lt
 have far : ∀ b,b < w.heap.size → own b ≠ 0 → own b ≠ 4 → own b ≠ 5 → own b ≠ 6 → ¬ S b := fun b hb h0 h4 h5 h6 e => by
  rcases hS b hb e with z | z | z | z
  ·exact h0 z
  ·exact h4 z
  ·exact h5 z
  ·exact h6 z
 obtain ⟨p,ex,el,px,pl,rx,rv,rxs,rcs,wx,wm,wn,cx,cn,km,rec_,evv,tx,pv,vv⟩ := L
 obtain ⟨p',ex',el',px',pl',rx',rv',rxs',rcs',wx',wm',wn',cx',cn',km',rec',evv',tx',pv',vv'⟩ := L'
 obtain ⟨cap,sh,pol,seed,rings,wr,status,locks,keys,recs,evs,ths⟩ := s
 obtain ⟨cap',sh',pol',seed',rings',wr',status',locks',keys',recs',evs',ths'⟩ := s'
 simp only [ML.mk.injEq] at hL
 simp only [St.mk.injEq] at hs
 obtain ⟨rfl,rfl,rfl,rfl,rfl,rfl,rfl,rfl,rfl,rfl,rfl,rfl,rfl,rfl,rfl,-,-,rfl,rfl,rfl⟩ := hL
 obtain ⟨rfl,rfl,rfl,rfl,rfl,rfl,rfl,rfl,-,-,-,rfl⟩ := hs
 refine ⟨(he _ hpl).trans h.op,hp,h.sh.kept he ho (fun b hb e => far b hb (by unfold ShL at e; omega) (by unfold ShL at e; omega) (by unfold ShL at e; omega) (by unfold ShL at e; omega)),h.pol.kept he ho (fun b hb h1 h2 => far b hb (by omega) (by omega) (by omega) (by omega)),h.st.kept he ho (fun b hb e => far b hb (by omega) (by omega) (by omega) (by omega)),h.wr.kept he ho (fun b hb e => far b hb (by omega) (by omega) (by omega) (by omega)),h.ce.kept he ho (fun b hb h1 h2 => far b hb (by omega) (by omega) (by omega) (by omega)),(he _ hkl).trans h.okm,hk,hr,hv,h.few,fun i t ht => ?_⟩
 have q := (h.ths i t ht).kept he ho (fun b hb e => far b hb (by omega) (by omega) (by omega) (by omega)) (fun b hb e => far b hb (by omega) (by omega) (by omega) (by omega)) (fun b hb e => far b hb (by omega) (by omega) (by omega) (by omega))
 exact ⟨q.ox,q.block,q.prog,q.vic⟩
theorem MAt.cell {own : Nat → Nat} {L : ML} (h : MAt own w L s) {t' : Th} (ht : s.ths[i]? = some t) (ho : Zb (fun b => b = L.tx i) w w') (hb : w'.heap[L.tx i]? = some (thC L i t')) (hp : t'.prog = t.prog) (hv : t'.vic = t.vic) : MAt own w' L (Zl s i t') := by
 have T := h.ths i t ht
 have ox := T.ox
 refine h.thread ht (Yd4 _ _) ho ?_ hb hp ?_
 ·have : (fun j => if j = i then L.vv i else L.vv j) = L.vv := by funext j; split; rename_i e; rw [e]; rfl
  rw [this]
 ·rw [hv]
  exact T.vic.kept (Yd4 _ _) ho (fun b _ e e' => by rw [e'] at e; omega)
theorem NG.tx {own : Nat → Nat} {L : ML} (h : MAt own w L s) (ht : s.ths[i]? = some t) (ho : Zb (fun b => b = L.tx i) w w') : Zb (NG own) w w' := ho.mono (fun b _ e => by have := (h.ths i t ht).ox; rw [e]; unfold NG; omega)
theorem Kz {own : Nat → Nat} {L : ML} (h : MAt own w L s) (ht : s.ths[i]? = some t) (ph : Int) : Calls Ydz 86 #[Pt (L.tx i),.int .i64 ph] w fun e w' => e = .returned (.bool true) ∧ MAt own w' L (Yk s i t ph) ∧ Zb (NG own) w w' := by
 have T := h.ths i t ht
 have c4 : w.cell? ⟨L.tx i,4,none⟩ = some (.int .i64 t.ph) := Za T.block rfl
 have f4 : w.frozen? ⟨L.tx i,4,none⟩ = false := Zc T.block _
 have HX : Hid (MAt own (w.setCell ⟨L.tx i,4,none⟩ (.int .i64 ph)) L (Yk s i t ph) ∧ Zb (NG own) w (w.setCell ⟨L.tx i,4,none⟩ (.int .i64 ph))) := Ydy (by
  have ho : Zb (fun b => b = L.tx i) w (w.setCell ⟨L.tx i,4,none⟩ (.int .i64 ph)) := Yd5 (S:=fun b => b = L.tx i) (Yd3 _ w) (.inl rfl) _
  exact ⟨h.cell ht ho (Zj T.block 4 _) rfl rfl,NG.tx h ht ho⟩)
 clear T h ht
 generalize L.tx i = tx at *
 go_enter Tryz.func86,Tryz.ntmps86
 go_wp2
 go_ret
 exact ⟨rfl,HX.out⟩
end
end Go.Proofs.YtdkhbegheognnaaGreatDoor.W

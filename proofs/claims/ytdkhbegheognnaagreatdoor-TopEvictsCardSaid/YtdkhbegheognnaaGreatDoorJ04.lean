/- Part of the proof of TopEvicts, joined by a program of the session: Tbm Tbv Tbw Tbu Tbp Tbr. -/
import Derived.Test.YtdkhbegheognnaaGreatDoorJ03
import Derived.Deep.RegionLaw
namespace Go.Proofs.YtdkhbegheognnaaGreatDoor.W
open Go.RowKit Go.Maps
open _root_.List renaming mem_append_right → Ydz, mem_cons_self → Yd0, mem_cons_of_mem → Yd1, replicate → Yd3, mem_map → Yd4, mem_append_left → Yd6, mem_append → Yea, mem_cons → Yed, map_cons → Yee, nodup_append → Yeg, map_append → Yei, nodup_cons → Yej, length_replicate → Yek, mem_singleton → Yel
open _root_.Go.Proofs.Tryz renaming prog → Yd2, ntmps222 → Yef, func222 → Yeh
open Ext renaming refl → Yd5
open _root_.Nat renaming le_refl → Yd7, ne_of_lt → Yd9, zero_le → Yem
open Zb renaming refl → Yd8, setCell → Yeb
open _root_.And renaming intro → Yec
set_option maxHeartbeats 4000000
set_option maxRecDepth 100000
variable {ent : Int → Option Ent}
variable {c pre post : Chn}
variable {k seed key : Int}
variable {e e0 : Ent}
variable {own : Nat → Nat}
variable {w w' w1 W w2 Wf : World}
variable {lb x b : Nat}
variable {t t' : Tb}
variable {v : Option Ent}
variable {p : Bool × Nat}
variable {a a0 : Addr}
section
attribute [local go_sem] World.setCell_drew Zg Zf
def Zcb (c : Chn) : List Int := c.map fun l => l.2.k
def Zbz (ent : Int → Option Ent) (c : Chn) : Int → Option Ent := fun k => if k ∈ Zcb c then none else ent k
theorem Zly (ent : Int → Option Ent) : Zbz ent [] = ent := by funext k; unfold Zbz Zcb; rw [if_neg (by simp)]
theorem Vl (h : Zbz ent c k = some e) : ent k = some e ∧ k ∉ Zcb c := by
 unfold Zbz at h
 split at h
 ·cases h
 ·rename_i hn; exact ⟨h,hn⟩
theorem Zem (h : k ∉ Zcb c) : Zbz ent c k = ent k := by unfold Zbz; rw [if_neg h]
theorem Zpw (h : k ∈ Zcb c) : Zbz ent c k = none := by unfold Zbz; rw [if_pos h]
theorem Xd.next (h : Xd own w lb x seed ent t) (hlb : lb + 2 < 1000000) (hl : t.moved < t.old.length) (hc : t.old[t.moved]? = some c) (hw : w' = w.setCell ⟨x,3,none⟩ (.int .i64 ((t.moved : Int) + 1))) :
  Xd own w' lb x seed (Zbz ent c) { t with moved := t.moved + 1 } := by
 have hC := h.chO t.moved c (Yd7 _) hc
 have hox := h.ox
 have horb := h.orb
 have far : ∀ b,b ≠ x → w'.heap[b]? = w.heap[b]? := fun b hb => by rw [hw]; exact RowKit.Below.heap_setCell w ⟨x,3,none⟩ _ b hb
 have hin : ∀ k,k ∈ Zcb c → t.place seed k = (true,t.moved) := fun k hk => by
  obtain ⟨q,hq,rfl⟩ := Yd4.1 hk
  exact (hC.mem q.1 q.2 hq).2.1
 have hpl : ∀ k,t.place seed k ≠ (true,t.moved) → ({ t with moved := t.moved + 1 } : Tb).place seed k = t.place seed k := fun k hk => by
  have hio := Qo (Yf seed k) 0 (n:=t.old.length) (by omega)
  unfold Tb.place at hk ⊢
  simp only
  by_cases h1 : 0 < t.old.length - t.moved ∧ t.moved ≤ Ye (Yf seed k) 0 t.old.length
  ·rw [if_pos h1] at hk ⊢
   rw [if_pos]
   have : Ye (Yf seed k) 0 t.old.length ≠ t.moved := fun e => hk (by rw [e])
   omega
  ·rw [if_neg h1,if_neg (by omega)]
 have chain : ∀ (q : Bool × Nat) (d : Chn),q ≠ (true,t.moved) → Zfw own w seed ent t q d → Zfw own w' seed (Zbz ent c) { t with moved := t.moved + 1 } q d := fun q d hq hd => by
  refine ⟨hd.links.same (fun b e hm => far b (fun e' => ?_)),fun b e hm => ?_,hd.once⟩
  ·have := (hd.mem b e hm).1
   rw [e',hox] at this
   have := Ys e.k
   omega
  ·obtain ⟨m1,m2,m3⟩ := hd.mem b e hm
   have hp : t.place seed e.k ≠ (true,t.moved) := by rw [m2]; exact hq
   refine ⟨m1,(hpl _ hp).trans m2,?_⟩
   rw [Zem (fun hk => hp (hin _ hk)),m3]
 refine ⟨h.ox,h.orb,?_,?_,h.size,⟨h.oldLen.1,hl⟩,?_,fun i d hd => chain _ d (by simp) (h.chN i d hd),fun i d hi hd => chain _ d (fun e => ?_) (h.chO i d (by simp only at hi; omega) hd),fun k e hke => ?_⟩
 ·have := Zj h.block 3 (.int .i64 ((t.moved : Int) + 1))
  rw [hw,this]
  rfl
 ·rw [far _ (fun e => by rw [e,hox] at horb; omega)]; exact h.rows
 ·rcases h.oldOk with a | ⟨b,arr,h1,h2,h3,h4,h5⟩
  ·exact .inl a
  ·exact .inr ⟨b,arr,h1,h2,by rw [far _ (fun e => by have := h2.1; rw [e,hox] at this; omega)]; exact h3,h4,fun i d hi hd => h5 i d (by simp only at hi; omega) hd⟩
 ·simp only [Prod.mk.injEq,true_and] at e
  simp only at hi
  omega
 ·obtain ⟨e1,e2⟩ := Vl hke
  obtain ⟨f1,d,b,f2,f3⟩ := h.all k e e1
  have hp : t.place seed k ≠ (true,t.moved) := fun e' => by
   rw [e'] at f2
   have f2' : t.old[t.moved]? = some d := f2
   rw [hc] at f2'
   cases f2'
   exact e2 (Yd4.2 ⟨(b,e),f3,f1⟩)
  exact ⟨f1,d,b,by rw [hpl _ hp]; exact f2,f3⟩
theorem Xd.drop (h : Xd own w lb x seed ent t) (hlb : lb + 2 < 1000000) (hl : t.moved = t.old.length) (hw : w' = (w.setCell ⟨x,2,none⟩ (.slice none 0 0)).setCell ⟨x,3,none⟩ (.int .i64 0)) :
  Xd own w' lb x seed ent { t with os := .slice none 0 0,old := [],moved := 0 } := by
 have hox := h.ox
 have horb := h.orb
 have far : ∀ b,b ≠ x → w'.heap[b]? = w.heap[b]? := fun b hb => by
  rw [hw]
  exact (RowKit.Below.heap_setCell _ ⟨x,3,none⟩ _ b hb).trans (RowKit.Below.heap_setCell w ⟨x,2,none⟩ _ b hb)
 have hpl : ∀ k,({ t with os := .slice none 0 0,old := [],moved := 0 } : Tb).place seed k = t.place seed k := fun k => by
  unfold Tb.place
  simp only
  rw [if_neg (by simp),if_neg (by omega)]
 have hpf : ∀ k,(t.place seed k).1 = false := fun k => by unfold Tb.place; rw [if_neg (by omega)]
 refine ⟨h.ox,h.orb,?_,?_,h.size,⟨Yem _,Yd7 _⟩,.inl ⟨rfl,rfl⟩,fun i d hd => ?_,fun i d hi hd => by simp at hd,fun k e hke => ?_⟩
 ·have := Zj (Zj h.block 2 (.slice none 0 0)) 3 (.int .i64 0)
  rw [hw,this]
  rfl
 ·rw [far _ (fun e => by rw [e,hox] at horb; omega)]; exact h.rows
 ·have hd' := h.chN i d hd
  refine ⟨hd'.links.same (fun b e hm => far b (fun e' => ?_)),fun b e hm => ?_,hd'.once⟩
  ·have := (hd'.mem b e hm).1
   rw [e',hox] at this
   have := Ys e.k
   omega
  ·obtain ⟨m1,m2,m3⟩ := hd'.mem b e hm
   exact ⟨m1,(hpl _).trans m2,m3⟩
 ·obtain ⟨f1,d,b,f2,f3⟩ := h.all k e hke
  refine ⟨f1,d,b,?_,f3⟩
  rw [hpl]
  have := hpf k
  unfold Tb.at_ at f2 ⊢
  rw [if_neg (by rw [this]; simp)] at f2 ⊢
  exact f2
structure Zsy (own : Nat → Nat) (w0 wr : World) (lb x : Nat) (seed : Int) (ent : Int → Option Ent) (t0 : Tb) (rem : Chn) (t : Tb) : Prop where
 ok : Xd own wr lb x seed (Zbz ent rem) t
 mv : t.moved = t0.moved + 1
 ol : t.old.length = t0.old.length
 nl : t.new.length = t0.new.length
 cnt : t.cnt = t0.cnt
 links : Y5 wr rem
 mem : ∀ b e,(b,e) ∈ rem → own b = lk e.k ∧ ent e.k = some e
 nod : (Zcb rem).Nodup
 only : Zb (TbL own lb (fun k => (ent k).isSome = true)) w0 wr
theorem Zsy.link {w0 wr : World} {t0 : Tb} {rest : Chn} (h : Zsy own w0 wr lb x seed ent t0 ((b,e) :: rest) t) (hlb : lb + 2 < 1000000) (hw : w1 = wr.setCell ⟨b,4,none⟩ (.pointer none)) :
  ∃ a,(∀ W,Sm w1 W → Zfb x e.k a W) ∧ w1.cell? a = some (.pointer none) ∧ w1.frozen? a = false ∧ a.spot = none ∧ ∀ W,Sm w1 W → ∃ t',Zsy own w0 (W.setCell a (Pt b)) lb x seed ent t0 rest t' := by
 have hmb := h.mem b e Yd0
 have hnd := Yej.1 h.nod
 have hbl : wr.heap[b]? = some (Kp e (Ym rest)) := h.links.1
 have hb1 : w1.heap[b]? = some (Kp e (.pointer none)) := by rw [hw]; exact Zj hbl 4 (.pointer none)
 have far : ∀ b',b' ≠ b → w1.heap[b']? = wr.heap[b']? := fun b' hb' => by rw [hw]; exact RowKit.Below.heap_setCell wr ⟨b,4,none⟩ _ b' hb'
 have ho1 : Zb (fun k => k = b) wr w1 := by rw [hw]; exact Yeb (S:=fun k => k = b) (Yd8 _ wr) (.inl rfl) _
 have hk1 : Xd own w1 lb x seed (Zbz ent ((b,e) :: rest)) t := h.ok.kept (Yd5 _ _) ho1 (fun b' _ hl e' => by
  subst e'
  have hbig := Ys e.k
  rcases hl with z | z | ⟨k,e2,z1,z2⟩
  ·omega
  ·omega
  ·rw [hmb.1] at z2
   rw [← Zbf z2,Zpw (c:=(b',e) :: rest) Yd0] at z1
   cases z1)
 obtain ⟨a0,c,hs,hc⟩ := Zcw hk1 e.k
 obtain ⟨F,FC⟩ := Zaf hk1 hs hc
 have hpost : (spl e.k c).2 = [] := by
  rcases hk1.found hc F (Zaz e.k c) with ⟨e1,_⟩ | ⟨b',e',rest',_,_,z,_⟩
  ·exact e1
  ·rw [Zpw (c:=(b,e) :: rest) Yd0] at z; cases z
 have hfr : w1.frozen? (Zd2 a0 (spl e.k c).1) = false := by
  rcases Zjq a0 (spl e.k c).1 with ⟨_,e2⟩ | ⟨pre',b',e',e1,e2⟩
  ·rw [e2]
   unfold Tb.slot at hs
   split at hs
   ·obtain ⟨b',hb',rfl⟩ := hs
    rcases hk1.oldOk with ⟨_,z⟩ | ⟨b'',arr,z1,_,z3,_⟩
    ·rw [z] at hb'; simp [Sl] at hb'
    ·rw [z1] at hb'
     simp only [Sl,Value.slice.injEq,Option.some.injEq,Addr.mk.injEq,and_true] at hb'
     rw [← hb']
     exact Zc z3 _
   ·rw [hs]; exact Zc hk1.rows _
  ·rw [e2]
   have hl := (hk1.links X0 hc).links
   have happ := Zpz e.k c
   have : pre' ++ (b',e') :: (spl e.k c).2 = c := by rw [e1] at happ; simpa using happ
   rw [← this] at hl
   exact Zc (Y5.at_ pre' hl) _
 have hspot : (Zd2 a0 (spl e.k c).1).spot = none := by
  rcases Zjq a0 (spl e.k c).1 with ⟨_,e2⟩ | ⟨pre',b',e',e1,e2⟩
  ·rw [e2]
   unfold Tb.slot at hs
   split at hs
   ·obtain ⟨b',hb',rfl⟩ := hs; rfl
   ·rw [hs]
  ·rw [e2]
 have hcell := F.cell
 rw [hpost] at F hcell
 generalize hpre : (spl e.k c).1 = pre at *
 generalize haa : Zd2 a0 pre = a at *
 refine ⟨a,fun W hs' => ?_,hcell,hfr,hspot,fun W hW => ?_⟩
 ·have hkW : Xd own W lb x seed (Zbz ent ((b,e) :: rest)) t := hk1.kept (Yd5 _ _) hs'.only (fun _ _ _ h => (h : False))
  have := (Zaf hkW hs hc).2
  rw [hpre,haa] at this
  exact this
 ·have hkW : Xd own W lb x seed (Zbz ent ((b,e) :: rest)) t := hk1.kept (Yd5 _ _) hW.only (fun _ _ _ h => (h : False))
  have FW := F.only hW.only
  have hbW : W.heap[b]? = some (Kp e (.pointer none)) := hW.block hb1
  have hlab : a.block ∈ [a.block] := Yd0
  have hC := hkW.links X0 hc
  have hpc : pre = c := by have := F.app; rw [List.append_nil] at this; exact this
  have hkp : ∀ b' e',(b',e') ∈ pre → Zbz ent ((b,e) :: rest) e'.k = some e' := fun b' e' hm => (hC.mem b' e' (by rw [← hpc]; exact hm)).2.2
  have hst := hkW.store (ent':=Zbz ent rest) hlb hs hc FW (post':=[(b,e)]) (fun w' hb' => ⟨(hb' b ⟨e,Yd0⟩).trans hbW,trivial⟩)
   (fun b' e' hm => by
     obtain ⟨rfl,rfl⟩ := Prod.mk.inj (Yel.1 hm)
     refine ⟨hmb.1,rfl,fun hx => ?_⟩
     obtain ⟨q,hq,hqk⟩ := Yd4.1 hx
     exact F.ne q hq hqk) (by simp)
   (fun k hk => by
     have hne : k ≠ e.k := fun e' => hk (by rw [e'])
     unfold Zbz Zcb
     simp only [Yee,Yed,hne,false_or])
   (fun b' e' hm => by
     rcases Yea.1 hm with z | z
     ·obtain ⟨z1,z2⟩ := Vl (hkp b' e' z)
      rw [Zem (fun hx => z2 (Yd1 _ hx)),z1]
     ·obtain ⟨rfl,rfl⟩ := Prod.mk.inj (Yel.1 z)
      rw [Zem hnd.1]
      exact hmb.2)
   (fun k e' hk hke => by
     by_cases ek : k = e.k
     ·subst ek
      obtain ⟨z1,_⟩ := Vl hke
      rw [hmb.2] at z1
      cases z1
      exact ⟨rfl,b,Ydz _ Yd0⟩
     ·obtain ⟨z1,z2⟩ := Vl hke
      have z3 : Zbz ent ((b,e) :: rest) k = some e' := by
       rw [Zem,z1]
       intro hx
       rcases Yed.1 hx with y | y
       ·exact ek y
       ·exact z2 y
      obtain ⟨f1,d,b',f2,f3⟩ := hkW.all k e' z3
      rw [hk,hc] at f2
      cases f2
      exact ⟨f1,b',Yd6 _ (by rw [hpc]; exact f3)⟩)
  have hab : a.block = t.rb ∨ (∃ b',own b' = lb + 1 ∧ a.block = b') ∨ ∃ b' e',(b',e') ∈ pre ∧ a.block = b' := by
   rcases F.at_ with ⟨_,e2⟩ | ⟨pre',b',e',e1,e2⟩
   ·rw [e2]
    unfold Tb.slot at hs
    split at hs
    ·obtain ⟨b',hb',rfl⟩ := hs
     rcases hk1.oldOk with ⟨_,z⟩ | ⟨b'',arr,z1,z2,z3,_⟩
     ·rw [z] at hb'; simp [Sl] at hb'
     ·rw [z1] at hb'
      simp only [Sl,Value.slice.injEq,Option.some.injEq,Addr.mk.injEq,and_true] at hb'
      exact .inr (.inl ⟨_,by rw [← hb']; exact z2.1,rfl⟩)
    ·rw [hs]; exact .inl rfl
   ·exact .inr (.inr ⟨b',e',by rw [e1]; exact Ydz _ Yd0,by rw [e2]⟩)
  have hTL : TbL own lb (fun k => (ent k).isSome = true) a.block := by
   rcases hab with z | ⟨b',z1,z2⟩ | ⟨b',e',z1,z2⟩
   ·rw [z]; exact .inr (.inl h.ok.orb)
   ·rw [z2]; exact .inr (.inl z1)
   ·rw [z2]
    obtain ⟨y1,y2,y3⟩ := hC.mem b' e' (by rw [← hpc]; exact z1)
    exact .inr (.inr ⟨e'.k,by show (ent e'.k).isSome = true; rw [(Vl y3).1]; rfl,y1⟩)
  have hbTL : TbL own lb (fun k => (ent k).isSome = true) b := .inr (.inr ⟨e.k,by show (ent e.k).isSome = true; rw [hmb.2]; rfl,hmb.1⟩)
  have hane : ∀ b',(∃ e',(b',e') ∈ rest) → b' ≠ a.block := fun b' ⟨e',hm⟩ ee => by
   obtain ⟨y1,y2⟩ := h.mem b' e' (Yd1 _ hm)
   have hbig := Ys e'.k
   rw [ee] at y1
   rcases hab with z | ⟨b'',z1,z2⟩ | ⟨b'',e'',z1,z2⟩
   ·rw [z,h.ok.orb] at y1; omega
   ·rw [z2,z1] at y1; omega
   ·obtain ⟨x1,x2,x3⟩ := hC.mem b'' e'' (by rw [← hpc]; exact z1)
    rw [z2,x1] at y1
    exact (Vl x3).2 (Yd1 _ (Yd4.2 ⟨(b',e'),hm,(Zbf y1).symm⟩))
  refine ⟨_,hst,?_,?_,?_,?_,?_,fun b' e' hm => h.mem b' e' (Yd1 _ hm),hnd.2,?_⟩
  ·rw [show (t.put (t.place seed e.k) (pre ++ [(b,e)])).moved = t.moved from by unfold Tb.put; split <;> rfl]; exact h.mv
  ·rw [show (t.put (t.place seed e.k) (pre ++ [(b,e)])).old.length = t.old.length from by unfold Tb.put; split <;> simp]; exact h.ol
  ·rw [show (t.put (t.place seed e.k) (pre ++ [(b,e)])).new.length = t.new.length from by unfold Tb.put; split <;> simp]; exact h.nl
  ·rw [show (t.put (t.place seed e.k) (pre ++ [(b,e)])).cnt = t.cnt from by unfold Tb.put; split <;> rfl]; exact h.cnt
  ·refine (h.links.2 : Y5 wr rest).same (fun b' e' hm => ?_)
   have hb' : b' ≠ b := fun ee => by
    have y1 := (h.mem b' e' (Yd1 _ hm)).1
    rw [ee,hmb.1] at y1
    exact hnd.1 (Yd4.2 ⟨(b',e'),hm,(Zbf y1).symm⟩)
   rw [RowKit.Below.heap_setCell W a _ b' (hane b' ⟨e',hm⟩),hW.heap]
   exact far b' hb'
  ·refine Yeb ((h.only.trans (ho1.mono (fun k _ ek => by rw [ek]; exact hbTL))).trans hW.only) (.inl hTL) _
def TbN (t : Tb) : Prop := t.moved = t.old.length → t.old = []
structure Qx (own : Nat → Nat) (w : World) (lb x : Nat) (seed : Int) (ent : Int → Option Ent) (t : Tb) : Prop where
 ok : Xd own w lb x seed ent t
 rest : TbN t
def Zhv (own : Nat → Nat) (w : World) (lb x : Nat) (seed : Int) (ent : Int → Option Ent) (t : Tb) (e : Ending) (w' : World) : Prop := e = .returned (.tuple #[]) ∧ ∃ t',Qx own w' lb x seed ent t' ∧ t'.new.length = t.new.length ∧ t'.cnt = t.cnt ∧ (t'.old.length = 0 ∨ t'.old.length = t.old.length) ∧ Zb (TbL own lb (fun k => (ent k).isSome = true)) w w'
def MvR (own : Nat → Nat) (w0 : World) (lb x : Nat) (seed : Int) (ent : Int → Option Ent) (t0 : Tb) (g : Nat) (p : Value) (wr : World) : Prop := ∃ rem t,p = Ym rem ∧ rem.length = g ∧ Zsy own w0 wr lb x seed ent t0 rem t
theorem Zpc (h : Xd own w lb x seed ent t) : Calls Yd2 225 #[Pt x] w fun e w' => e = .returned (.int .i64 ((t.old.length - t.moved : Nat) : Int)) ∧ Sm w w' := (Zwn h).mono (fun e w' ⟨a,m,b⟩ => ⟨a,by rw [b]; exact ⟨rfl,rfl,rfl,rfl⟩⟩)
theorem Xd.sm (h : Xd own w lb x seed ent t) (hs : Sm w w') : Xd own w' lb x seed ent t := h.kept (Yd5 _ _) hs.only (fun _ _ _ h => (h : False))
theorem Zy9 (h : Qx own w lb x seed ent t) (hl : t.old.length - t.moved = 0) : Calls Yd2 221 #[Pt x] w (Zhv own w lb x seed ent t) := by
 have LF := Ydy (Zpc h.ok)
 rw [hl] at LF
 have HX : Hid (∀ w',Sm w w' → Zhv own w lb x seed ent t (.returned (.tuple #[])) w') := Ydy (fun w' hs => ⟨rfl,t,⟨h.ok.sm hs,h.rest⟩,rfl,rfl,.inr rfl,hs.only⟩)
 clear h hl
 go_enter Tryz.func221,Tryz.ntmps221
 go_wp2_with fail
 refine (LF.out).mono ?_
 rintro e w1 ⟨rfl,hs⟩
 have HR := Ydy (HX.out w1 hs)
 clear hs HX LF
 go_wp2
 go_end0
 exact HR.out
theorem Zza (h : Qx own w lb x seed ent t) (hlb : lb + 2 < 1000000) (hl : 0 < t.old.length - t.moved) : Calls Yd2 221 #[Pt x] w (Zhv own w lb x seed ent t) := by
 have LF := Ydy (Zpc h.ok)
 have hlt : t.moved < t.old.length := by omega
 have hol := h.ok.oldLen.1
 obtain ⟨c,hc⟩ : ∃ c,t.old[t.moved]? = some c := ⟨_,List.getElem?_eq_getElem hlt⟩
 have hC := h.ok.chO t.moved c (Yd7 _) hc
 rcases h.ok.oldOk with ⟨he,_⟩ | ⟨ob,arr,ho,hb1,hb2,hb3,hb4⟩
 ·rw [he] at hlt; cases hlt
 have H0 : Hid (∀ W,Sm w W → MvR own w lb x seed ent t c.length (Ym c) (W.setCell ⟨x,3,none⟩ (.int .i64 ((t.moved : Int) + 1)))) := Ydy (fun W hs => by
  have h' := h.ok.sm hs
  refine ⟨c,_,rfl,rfl,h'.next hlb hlt hc rfl,rfl,rfl,rfl,rfl,?_,fun b e hm => ⟨(hC.mem b e hm).1,(hC.mem b e hm).2.2⟩,hC.once,hs.only.setCell (.inl (.inl h.ok.ox)) _⟩
  refine (hC.links.sm hs).same (fun b e hm => RowKit.Below.heap_setCell W _ _ b (fun e' => ?_))
  have := (hC.mem b e hm).1
  have e2 : b = x := e'
  rw [e2,h.ok.ox] at this
  have := Ys e.k
  omega)
 have HCL : Hid (∀ W,Sm w W → W.cell? ⟨x,2,none⟩ = some (Sl ob t.old.length) ∧ W.cell? ⟨x,3,none⟩ = some (.int .i64 (t.moved : Int)) ∧ W.frozen? ⟨x,3,none⟩ = false ∧ W.cell? ⟨ob,t.moved,none⟩ = some (Ym c)) := Ydy (fun W hs => by
  have hb := hs.block h.ok.block
  rw [ho] at hb
  exact ⟨Za hb rfl,Za hb rfl,Zc hb _,Za (hs.block hb2) (hb4 _ _ (Yd7 _) hc)⟩)
 have HT : Hid (∀ W rem tk,Zsy own w W lb x seed ent t rem tk → Calls Yd2 225 #[Pt x] W fun e w' => e = .returned (.int .i64 ((t.old.length - (t.moved + 1) : Nat) : Int)) ∧ Sm W w') := Ydy (fun W rem tk hk => by
  have := Zpc hk.ok
  rw [hk.ol,hk.mv] at this
  exact this)
 have IW := IntWalk.i64_in ((t.moved : Int) + 1) (by omega)
 have hlt2 := hlt
 have HLB := Ydy hlb
 clear h hl hC hb1 hb2 hb3 hb4 ho hlb
 have hmz : (((t.old.length - t.moved : Nat) : Int) == 0) = false := by simp; omega
 go_enter Tryz.func221,Tryz.ntmps221
 go_wp2_with fail
 refine (LF.out).mono ?_
 rintro e w1 ⟨rfl,hs⟩
 have HS := Ydy hs
 obtain ⟨c2,c3,_,cc⟩ := HCL.out w1 hs
 clear hs LF
 go_wp2
 go_quiet (fail)
 have hs2 : Sm w (w1.drewN nq) := HS.out.trans ⟨rfl,rfl,rfl,rfl⟩
 clear c2 c3 cc HS
 generalize w1.drewN nq = W at *
 obtain ⟨c2,c3,f3,_⟩ := HCL.out W hs2
 have HR := H0.out W hs2
 clear hs2 HCL H0 c2
 go_wp2
 go_loopg [2] c.length (fun g p wr => MvR own w lb x seed ent t g p wr)
 case atStart => exact HR
 case round =>
  obtain ⟨rem,tk,rfl,hg,M⟩ := hrel
  have HG := Ydy hg
  have HM := Ydy M
  clear hg
  cases rem with
  | nil =>
   have L2 := Ydy (HT.out _ _ _ M)
   have hle : t.moved + 1 ≤ t.old.length := by omega
   have hp0 : Ym ([] : Chn) = .pointer none := rfl
   rw [hp0]
   clear M HR HG c3 f3
   by_cases hz : t.moved + 1 = t.old.length
   ·have hL0 : ((t.old.length - (t.moved + 1) : Nat) : Int) = 0 := by omega
    rw [hL0] at L2
    have HZ : Hid (∀ W,Sm wr W → (W.cell? ⟨x,2,none⟩).isSome ∧ True) := Ydy (fun W hs => by
     have := Za (j:=2) (hs.block HM.out.ok.block) rfl
     rw [this]; exact ⟨rfl,trivial⟩)
    have HX : Hid (∀ W,Sm wr W → (∃ v2 v3,W.cell? ⟨x,2,none⟩ = some v2 ∧ W.cell? ⟨x,3,none⟩ = some v3 ∧ W.frozen? ⟨x,2,none⟩ = false ∧ W.frozen? ⟨x,3,none⟩ = false) ∧ Zhv own w lb x seed ent t (.returned (.tuple #[])) ((W.setCell ⟨x,2,none⟩ (.slice none 0 0)).setCell ⟨x,3,none⟩ (.int .i64 0))) := Ydy (fun W hs => by
     have M := HM.out
     have hb := hs.block M.ok.block
     refine ⟨⟨_,_,Za (j:=2) hb rfl,Za (j:=3) hb rfl,Zc hb _,Zc hb _⟩,rfl,{ tk with os := .slice none 0 0,old := [],moved := 0 },⟨?_,fun _ => rfl⟩,M.nl,M.cnt,.inl rfl,((M.only.trans hs.only).setCell (.inl (.inl M.ok.ox)) _).setCell (.inl (.inl M.ok.ox)) _⟩
     have hk := M.ok
     rw [Zly] at hk
     exact (hk.sm hs).drop HLB.out (by rw [M.mv,M.ol]; exact hz) rfl)
    clear HZ HM HT hlt hol hc IW hlt2 hmz hle hz hL0
    go_wp2_with fail
    refine (L2.out).mono ?_
    rintro e2 w2 ⟨rfl,hs2⟩
    obtain ⟨⟨v2,v3,d2,d3,f2,f3⟩,hx⟩ := HX.out w2 hs2
    have HXX := Ydy hx
    clear hx hs2 HX L2
    go_wp2
    go_end0
    exact HXX.out
   ·have hLz : (((t.old.length - (t.moved + 1) : Nat) : Int) == 0) = false := by simp; omega
    have HX : Hid (∀ W,Sm wr W → Zhv own w lb x seed ent t (.returned (.tuple #[])) W) := Ydy (fun W hs => by
     have M := HM.out
     have hk := M.ok
     rw [Zly] at hk
     exact ⟨rfl,tk,⟨hk.sm hs,fun e => by rw [M.mv,M.ol] at e; exact absurd e hz⟩,M.nl,M.cnt,.inr M.ol,M.only.trans hs.only⟩)
    clear HM HT hlt hol hc IW hlt2 hmz hle hz
    go_wp2_with fail
    refine (L2.out).mono ?_
    rintro e2 w2 ⟨rfl,hs2⟩
    have HXX := Ydy (HX.out w2 hs2)
    clear hs2 HX L2
    go_wp2
    go_end0
    exact HXX.out
  | cons q rest =>
   obtain ⟨b,e⟩ := q
   have hbl : wr.heap[b]? = some (Kp e (Ym rest)) := M.links.1
   have b0 : wr.cell? ⟨b,0,none⟩ = some (.int .i64 e.k) := Za hbl rfl
   have b4 : wr.cell? ⟨b,4,none⟩ = some (Ym rest) := Za hbl rfl
   have g4 : wr.frozen? ⟨b,4,none⟩ = false := Zc hbl _
   obtain ⟨a,k1,k2,k3,k4,k5⟩ := M.link HLB.out (w1:=wr.setCell ⟨b,4,none⟩ (.pointer none)) rfl
   have K1 : Hid (Calls Yd2 220 #[Pt x,.int .i64 e.k] (wr.setCell ⟨b,4,none⟩ (.pointer none)) fun e w' => e = .returned (.pointer (some a)) ∧ Sm (wr.setCell ⟨b,4,none⟩ (.pointer none)) w') := Ydy (k1 _ (Sm.refl _))
   have K5 := Ydy k5
   have HFZ : Hid (∀ W,Sm (wr.setCell ⟨b,4,none⟩ (.pointer none)) W → W.cell? a = some (.pointer none) ∧ W.frozen? a = false) := Ydy (fun W hs => ⟨(hs.cell _).trans k2,(hs.frozen _).trans k3⟩)
   have HLT : Hid (rest.length < gk) := Ydy (by have := HG.out; simp only [List.length_cons] at this; omega)
   clear k1 k5 M HR k2 k3 k4 hbl HT HG HM c3 f3 IW hlt2 hmz hlt hol hc
   have hlp : Ym ((b,e) :: rest) = .pointer (some ⟨b,0,none⟩) := rfl
   rw [hlp]
   generalize hlr : Ym rest = lr at *
   have HLR := Ydy hlr
   clear hlr
   generalize e.k = ek at *
   go_wp2_with fail
   refine (K1.out).mono ?_
   rintro e2 w2 ⟨rfl,hs2⟩
   obtain ⟨q1,q2⟩ := HFZ.out w2 hs2
   have HN := Ydy (K5.out w2 hs2)
   clear hs2 HFZ b0 b4 g4
   go_wp2
   go_roundg rest.length
   case rel =>
    obtain ⟨t',ht'⟩ := HN.out
    exact ⟨rest,t',HLR.out.symm,rfl,ht'⟩
   case measure => exact HLT.out
theorem Zkb (h : Qx own w lb x seed ent t) (hlb : lb + 2 < 1000000) : Calls Yd2 221 #[Pt x] w (Zhv own w lb x seed ent t) := by
 by_cases hl : 0 < t.old.length - t.moved
 ·exact Zza h hlb hl
 ·exact Zy9 h (by omega)
theorem Xd.grown (h : Xd own w lb x seed ent t) (hlb : lb + 2 < 1000000) (hold : t.old = []) (hn : t.new.length < 65536) {nb : Nat} (hnb : nb = w.heap.size)
  (hw : w' = ((w.alloc (.cells ((Yd3 (t.new.length + t.new.length) (Value.pointer none)).toArray) 224)).setCell ⟨x,2,none⟩ (Sl t.rb t.new.length)).setCell ⟨x,1,none⟩ (Sl nb (t.new.length + t.new.length))) :
  Xd (lab own nb (lb + 1)) w' lb x seed ent { t with rb := nb,new := Yd3 (t.new.length + t.new.length) [],os := Sl t.rb t.new.length,old := t.new,moved := 0 } := by
 have hx := Ze h.block
 have hr := Ze h.rows
 have hm0 : t.moved = 0 := by have := h.oldLen.2; rw [hold] at this; exact Nat.le_zero.1 this
 obtain ⟨hlen1,hlen2⟩ := h.len
 have hox := h.ox
 have horb := h.orb
 have hxr : t.rb ≠ x := fun e => by rw [e,hox] at horb; omega
 have far : ∀ b,b < w.heap.size → b ≠ x → w'.heap[b]? = w.heap[b]? := fun b hb hne => by
  rw [hw]
  rw [RowKit.Below.heap_setCell _ ⟨x,1,none⟩ _ b hne,RowKit.Below.heap_setCell _ ⟨x,2,none⟩ _ b hne]
  exact RowKit.Below.heap_alloc w _ b hb
 have hnew : w'.heap[nb]? = some (.cells ((Yd3 (t.new.length + t.new.length) (Value.pointer none)).toArray) 224 (0,0)) := by
  have hne : nb ≠ x := by omega
  rw [hw,RowKit.Below.heap_setCell _ ⟨x,1,none⟩ _ nb hne,RowKit.Below.heap_setCell _ ⟨x,2,none⟩ _ nb hne,hnb]
  exact Zh w _
 have hpl : ∀ k,({ t with rb := nb,new := Yd3 (t.new.length + t.new.length) [],os := Sl t.rb t.new.length,old := t.new,moved := 0 } : Tb).place seed k = (true,Ye (Yf seed k) 0 t.new.length) := fun k => by
  unfold Tb.place
  simp only
  rw [if_pos ⟨by omega,Yem _⟩]
 have hpo : ∀ k,t.place seed k = (false,Ye (Yf seed k) 0 t.new.length) := fun k => by
  unfold Tb.place
  rw [hold]
  simp
 have hownn : ∀ b,b < w.heap.size → lab own nb (lb + 1) b = own b := fun b hb => Zq (by omega)
 refine ⟨(hownn _ hx).trans h.ox,Zn _ _ _,?_,?_,?_,⟨by show t.new.length ≤ 65536; omega,Yem _⟩,.inr ⟨t.rb,(t.new.map Ym).toArray,rfl,⟨(hownn _ hr).trans h.orb,by show t.rb ≠ nb; omega⟩,?_,by simp,fun i c _ hc => ?_⟩,fun i c hc => ?_,fun i c _ hc => ?_,fun k e hke => ?_⟩
 ·have h1 := Zm (o':=.cells ((Yd3 (t.new.length + t.new.length) (Value.pointer none)).toArray) 224) h.block
  have h2 := Zj (Zj h1 2 (Sl t.rb t.new.length)) 1 (Sl nb (t.new.length + t.new.length))
  rw [hw,h2,hm0]
  simp [Yek]
 ·rw [hnew]
  congr 2
  apply Array.ext_getElem?
  intro j
  simp [Ym]
 ·obtain ⟨j,hj,hjl⟩ := h.size
  refine ⟨j + 1,?_,?_⟩
  ·rcases Nat.lt_or_ge j 13 with z | z
   ·omega
   ·have hj13 : j = 13 := by omega
    rw [hj13] at hjl
    have : (2 : Nat) ^ 13 = 8192 := by decide
    omega
  ·rw [Yek,hjl,Nat.pow_succ]
   omega
 ·rw [far _ hr hxr]; exact h.rows
 ·have hc' : t.new[i]? = some c := hc
  simp [hc']
 ·have hc' : (Yd3 (t.new.length + t.new.length) ([] : Chn))[i]? = some c := hc
  rw [List.getElem?_replicate] at hc'
  split at hc'
  ·cases hc'
   exact ⟨trivial,fun _ _ h => (nomatch h),List.nodup_nil⟩
  ·cases hc'
 ·have hd := h.chN i c hc
  refine ⟨hd.links.same (fun b e hm => far b (hd.links.block_lt hm) (fun e' => ?_)),fun b e hm => ?_,hd.once⟩
  ·have := (hd.mem b e hm).1
   rw [e',hox] at this
   have := Ys e.k
   omega
  ·obtain ⟨m1,m2,m3⟩ := hd.mem b e hm
   refine ⟨(hownn b (hd.links.block_lt hm)).trans m1,?_,m3⟩
   rw [hpo] at m2
   rw [hpl]
   simp only [Prod.mk.injEq,true_and] at m2 ⊢
   exact m2
 ·obtain ⟨f1,d,b,f2,f3⟩ := h.all k e hke
  refine ⟨f1,d,b,?_,f3⟩
  rw [hpl]
  rw [hpo] at f2
  exact f2
theorem Zph (n : Nat) (hn : n ≤ 200000) (W : World) : (Instr.makeSlice 184 (.int .i64 (n : Int)) (.int .i64 (n : Int))).run Yd2 W = .ok (Sl W.heap.size n) (W.alloc (.cells ((Yd3 n (Value.pointer none)).toArray) 224)) := by
 obtain ⟨i,hi,hz0,hz1,hz2⟩ := info_parts (show (Yd2.info? 224).map (fun i => (i.zero,i.size,i.bytes)) = some (some (.pointer none),1,8) from by kernel_rfl)
 have := run_makeSlice W 184 224 i _ Tryz.underlying184 hi hz0 .i64 .i64 (n : Int) (n : Int) (by omega) (Int.le_refl _) (by rw [hz1]; simp; omega) (by rw [hz2]; omega) (by omega)
 rw [this,hz1]
 simp only [Int.toNat_natCast,Nat.mul_one]
 rw [Zaj _ rfl]
def Zsx (own : Nat → Nat) (w : World) (lb x : Nat) (seed : Int) (ent : Int → Option Ent) (t : Tb) (e : Ending) (w' : World) : Prop := e = .returned (.tuple #[]) ∧ ∃ own' t',Ext w own own' ∧ Qx own' w' lb x seed ent t' ∧ t'.cnt = t.cnt ∧ Zb (TbL own lb (fun k => (ent k).isSome = true)) w w'
theorem Ybl (h : Qx own w lb x seed ent t) (hlb : lb + 2 < 1000000) : Calls Yd2 222 #[Pt x] w (Zsx own w lb x seed ent t) := by
 have LF := Ydy (Zpc h.ok)
 obtain ⟨hn1,hn2⟩ := h.ok.len
 have c1 : w.cell? ⟨x,1,none⟩ = some (Sl t.rb t.new.length) := Za h.ok.block rfl
 have HC : Hid (∀ W,Sm w W → W.cell? ⟨x,1,none⟩ = some (Sl t.rb t.new.length) ∧ W.cell? ⟨x,4,none⟩ = some (.int .i64 t.cnt) ∧ (∃ v,W.cell? ⟨x,2,none⟩ = some v) ∧ W.frozen? ⟨x,1,none⟩ = false ∧ W.frozen? ⟨x,2,none⟩ = false) := Ydy (fun W hs => by
  have hb := hs.block h.ok.block
  exact ⟨Za hb rfl,Za hb rfl,⟨_,Za (j:=2) hb rfl⟩,Zc hb _,Zc hb _⟩)
 have HX : Hid (∀ W,Sm w W → Zsx own w lb x seed ent t (.returned (.tuple #[])) W) := Ydy (fun W hs => ⟨rfl,own,t,Yd5 _ _,⟨h.ok.sm hs,h.rest⟩,rfl,hs.only⟩)
 by_cases hl : 0 < t.old.length - t.moved
 ·have hz : (((t.old.length - t.moved : Nat) : Int) == 0) = false := by simp; omega
  clear h hl
  generalize t.new.length = N at *
  go_enter Yeh,Yef
  go_wp2_with fail
  go_wp2_with fail
  refine (LF.out).mono ?_
  rintro e w1 ⟨rfl,hs⟩
  have HR := Ydy (HX.out w1 hs)
  clear hs HX LF HC
  go_wp2
  go_end0
  exact HR.out
 ·have hz : ((t.old.length - t.moved : Nat) : Int) = 0 := by omega
  rw [hz] at LF
  have hold : t.old = [] := h.rest (by have := h.ok.oldLen.2; omega)
  by_cases hg : (t.new.length : Int) < t.cnt ∧ t.new.length < 65536
  ·obtain ⟨hg1,hg2⟩ := hg
   have HY : Hid (∀ W W',Sm w W → W' = ((W.alloc (.cells ((Yd3 (t.new.length + t.new.length) (Value.pointer none)).toArray) 224)).setCell ⟨x,2,none⟩ (Sl t.rb t.new.length)).setCell ⟨x,1,none⟩ (Sl W.heap.size (t.new.length + t.new.length)) → Zsx own w lb x seed ent t (.returned (.tuple #[])) W'.drew) := Ydy (fun W W' hs hw => by
    have ho := h.ok.ox
    refine ⟨rfl,_,_,?_,⟨((h.ok.sm hs).grown hlb hold hg2 rfl hw).sm ⟨rfl,rfl,rfl,rfl⟩,fun e => ?_⟩,rfl,?_⟩
    ·rw [hs.size]; exact (Yd5 w own).lab (Yd7 _) _
    ·have := h.ok.len.1
     simp only at e
     omega
    ·rw [hw]
     exact (((hs.only.alloc _).setCell (.inl (.inl ho)) _).setCell (.inl (.inl ho)) _).drew)
   have hmk : ∀ W : World,(Instr.makeSlice 184 (.int .i64 ((t.new.length + t.new.length : Nat) : Int)) (.int .i64 ((t.new.length + t.new.length : Nat) : Int))).run Yd2 W = .ok (Sl W.heap.size (t.new.length + t.new.length)) (W.alloc (.cells ((Yd3 (t.new.length + t.new.length) (Value.pointer none)).toArray) 224)) := fun W => Zph _ (by omega) W
   have hw64 : IntKind.i64.wrap ((t.new.length : Int) + (t.new.length : Int)) = ((t.new.length + t.new.length : Nat) : Int) := by
    rw [IntWalk.i64_in _ (by omega)]; omega
   have d2 : decide ((t.new.length : Int) < t.cnt) = true := by simpa using hg1
   have d3 : decide ((t.new.length : Int) < 65536) = true := by simp; omega
   clear h hz hold hl HX hn1 hn2
   generalize hN : t.new.length = N at *
   generalize t.cnt = cn at *
   generalize N + N = NN at *
   generalize (Yd3 NN (Value.pointer none)).toArray = ar at *
   clear hN hg1 hg2
   go_enter Yeh,Yef
   go_wp2_with fail
   refine (LF.out).mono ?_
   rintro e w1 ⟨rfl,hs⟩
   obtain ⟨c1,c4,⟨v2,c2⟩,f1,f2⟩ := HC.out w1 hs
   have HS := Ydy hs
   have hx1 : x < w1.heap.size := World.block_lt_of_cell? w1 _ c1
   have hx2 : x ≠ w1.heap.size := Yd9 hx1
   have hx3 : w1.heap.size ≠ x := fun e => hx2 e.symm
   clear hs HC LF
   go_wp2
   go_region_law (fail)
   all_goals
    go_end0
    exact HY.out w1 _ HS.out (by simp [go_sem,hx1])
  ·have HX2 := HX
   have d2 : (t.new.length : Int) < t.cnt → ¬ t.new.length < 65536 := fun h1 h2 => hg ⟨h1,h2⟩
   clear h hz hold hl HX
   generalize t.new.length = N at *
   generalize t.cnt = cn at *
   by_cases hcn : (N : Int) < cn
   ·have d1 : decide ((N : Int) < cn) = true := by simpa using hcn
    have d3 : decide ((N : Int) < 65536) = false := by have := d2 hcn; simp; omega
    clear hg d2 hn1 hn2
    go_enter Yeh,Yef
    go_wp2_with fail
    refine (LF.out).mono ?_
    rintro e w1 ⟨rfl,hs⟩
    obtain ⟨c1,c4,_,f1,f2⟩ := HC.out w1 hs
    have HR := Ydy (HX2.out w1 hs)
    clear hs HC LF HX2
    go_wp2
    go_end0
    exact HR.out
   ·have d1 : decide ((N : Int) < cn) = false := by simpa using hcn
    clear hg d2 hn1 hn2
    go_enter Yeh,Yef
    go_wp2_with fail
    refine (LF.out).mono ?_
    rintro e w1 ⟨rfl,hs⟩
    obtain ⟨c1,c4,_,f1,f2⟩ := HC.out w1 hs
    have HR := Ydy (HX2.out w1 hs)
    clear hs HC LF HX2
    go_wp2
    go_end0
    exact HR.out
def Kv (ent : Int → Option Ent) (k : Int) (v : Option Ent) : Int → Option Ent := fun i => if i = k then v else ent i
theorem Za3 (ent : Int → Option Ent) (k : Int) (v : Option Ent) : Kv ent k v k = v := if_pos rfl
theorem Jg {i : Int} (h : i ≠ k) : Kv ent k v i = ent i := if_neg h
structure Zp5 (t t' : Tb) : Prop where
 cnt : t'.cnt = t.cnt
 moved : t'.moved = t.moved
 old : t'.old.length = t.old.length
 os : t'.os = t.os
 rb : t'.rb = t.rb
theorem Zcj (t : Tb) (p : Bool × Nat) (c : Chn) : Zp5 t (t.put p c) := by unfold Tb.put; split <;> exact ⟨rfl,rfl,by simp,rfl,rfl⟩
theorem Zp5.rest (h : Zp5 t t') (hn : TbN t) : TbN t' := fun e => by
 rw [h.moved,h.old] at e
 have := hn e
 have h0 := h.old
 rw [this] at h0
 exact List.length_eq_zero_iff.1 h0
theorem Zp5.slot (h : Zp5 t t') (hs : t.slot p a) : t'.slot p a := by
 unfold Tb.slot at hs ⊢
 rw [h.os,h.rb,h.old]
 exact hs
theorem Vy (h : Xd own w lb x seed ent t) (hc : t.at_ (t.place seed key) = some c) (F : Jl w c a0 key a pre post) : ∀ b e,(b,e) ∈ pre ++ post → own b = lk e.k ∧ t.place seed e.k = t.place seed key ∧ ent e.k = some e := fun b e hm => by
 rw [F.app] at hm
 exact (h.links X0 hc).mem b e hm
theorem Xd.remove (h : Xd own w lb x seed ent t) (hlb : lb + 2 < 1000000) {rest : Chn} (hs : t.slot (t.place seed key) a0) (hc : t.at_ (t.place seed key) = some c) (F : Jl w c a0 key a pre ((b,e) :: rest)) (hk : e.k = key) :
  Xd own (w.setCell a (Ym rest)) lb x seed (Kv ent key none) (t.put (t.place seed key) (pre ++ rest)) := by
 have hC := h.links X0 hc
 have hm := Vy h hc F
 have hn := hC.once
 rw [← F.app,Yei,Yee] at hn
 obtain ⟨hn1,hn2,hn3⟩ := Yeg.1 hn
 obtain ⟨hn4,hn5⟩ := Yej.1 hn2
 refine h.store hlb hs hc F (fun w' hb => ?_) (fun b' e' hm' => ?_) hn5 (fun k hk' => Jg (fun e' => hk' (by rw [e']))) (fun b' e' hm' => ?_) (fun k e' hk' hke => ?_)
 ·have hl := hC.links
  rw [← F.app] at hl
  exact (hl.right.2 : Y5 w rest).same (fun b' e' hm' => hb b' ⟨e',hm'⟩)
 ·obtain ⟨m1,m2,_⟩ := hm b' e' (Ydz _ (Yd1 _ hm'))
  refine ⟨m1,m2,fun hx => ?_⟩
  exact hn3 _ hx _ (Yd1 _ (Yd4.2 ⟨(b',e'),hm',rfl⟩)) rfl
 ·have hne : e'.k ≠ key := fun ee => by
   rcases Yea.1 hm' with z | z
   ·exact F.ne _ z ee
   ·exact hn4 (Yd4.2 ⟨(b',e'),z,by rw [hk]; exact ee⟩)
  rw [Jg hne]
  refine (hm b' e' ?_).2.2
  rcases Yea.1 hm' with z | z
  ·exact Yd6 _ z
  ·exact Ydz _ (Yd1 _ z)
 ·have hne : k ≠ key := fun ee => by rw [ee,Za3] at hke; cases hke
  rw [Jg hne] at hke
  obtain ⟨f1,d,b',f2,f3⟩ := h.all k e' hke
  rw [hk',hc] at f2
  cases f2
  refine ⟨f1,b',?_⟩
  rw [← F.app] at f3
  rcases Yea.1 f3 with z | z
  ·exact Yd6 _ z
  ·rcases Yed.1 z with y | y
   ·obtain ⟨_,rfl⟩ := Prod.mk.inj y
    exact absurd (f1.symm.trans hk) hne
   ·exact Ydz _ y
theorem Xd.insert (h : Xd own w lb x seed ent t) (hlb : lb + 2 < 1000000) {rest : Chn} (hs : t.slot (t.place seed key) a0) (hc : t.at_ (t.place seed key) = some c) (F : Jl w c a0 key a pre rest) (hk : e.k = key) (hno : ent key = none) (hb : w.heap[b]? = some (Kp e (Ym rest))) (ho : own b = lk key) :
  Xd own (w.setCell a (Pt b)) lb x seed (Kv ent key (some e)) (t.put (t.place seed key) (pre ++ (b,e) :: rest)) := by
 have hC := h.links X0 hc
 have hm := Vy h hc F
 have hn := hC.once
 rw [← F.app,Yei] at hn
 obtain ⟨hn1,hn2,hn3⟩ := Yeg.1 hn
 have hnk : ∀ b' e',(b',e') ∈ pre ++ rest → e'.k ≠ key := fun b' e' hm' ee => by
  have := (hm b' e' hm').2.2
  rw [ee,hno] at this
  cases this
 refine h.store (post':=(b,e) :: rest) hlb hs hc F (fun w' hb' => ⟨(hb' b ⟨e,Yd0⟩).trans hb,?_⟩) (fun b' e' hm' => ?_) ?_ (fun k hk' => Jg (fun e' => hk' (by rw [e']))) (fun b' e' hm' => ?_) (fun k e' hk' hke => ?_)
 ·have hl := hC.links
  rw [← F.app] at hl
  exact hl.right.same (fun b' e' hm' => hb' b' ⟨e',Yd1 _ hm'⟩)
 ·rcases Yed.1 hm' with y | y
  ·obtain ⟨rfl,rfl⟩ := Prod.mk.inj y
   refine ⟨by rw [hk]; exact ho,by rw [hk],fun hx => ?_⟩
   obtain ⟨q,hq,hqk⟩ := Yd4.1 hx
   exact F.ne q hq (hqk.trans hk)
  ·obtain ⟨m1,m2,_⟩ := hm b' e' (Ydz _ y)
   exact ⟨m1,m2,fun hx => hn3 _ hx _ (Yd4.2 ⟨(b',e'),y,rfl⟩) rfl⟩
 ·rw [Yee]
  refine Yej.2 ⟨fun hx => ?_,hn2⟩
  obtain ⟨q,hq,hqk⟩ := Yd4.1 hx
  exact hnk q.1 q.2 (Ydz _ hq) (hqk.trans hk)
 ·rcases Yea.1 hm' with z | z
  ·rw [Jg (hnk b' e' (Yd6 _ z))]
   exact (hm b' e' (Yd6 _ z)).2.2
  ·rcases Yed.1 z with y | y
   ·obtain ⟨rfl,rfl⟩ := Prod.mk.inj y
    rw [hk,Za3]
   ·rw [Jg (hnk b' e' (Ydz _ y))]
    exact (hm b' e' (Ydz _ y)).2.2
 ·by_cases ek : k = key
  ·rw [ek,Za3] at hke
   cases hke
   exact ⟨hk.trans ek.symm,b,Ydz _ Yd0⟩
  ·rw [Jg ek] at hke
   obtain ⟨f1,d,b',f2,f3⟩ := h.all k e' hke
   rw [hk',hc] at f2
   cases f2
   refine ⟨f1,b',?_⟩
   rw [← F.app] at f3
   rcases Yea.1 f3 with z | z
   ·exact Yd6 _ z
   ·exact Ydz _ (Yd1 _ z)
theorem Ze7 (h : t.slot p a) : a.spot = none := by
 unfold Tb.slot at h
 split at h
 ·obtain ⟨b,_,rfl⟩ := h; rfl
 ·rw [h]
theorem Jl.spot (h : Jl w c a0 key a pre post) (h0 : a0.spot = none) : a.spot = none := by
 rcases h.at_ with ⟨_,e⟩ | ⟨_,b,_,_,e⟩
 ·rw [e]; exact h0
 ·rw [e]
theorem Zt9 (h : Xd own w lb x seed ent t) (hlb : lb + 2 < 1000000) {rest : Chn} (hs : t.slot (t.place seed key) a0) (hc : t.at_ (t.place seed key) = some c) (F : Jl w c a0 key a pre ((b,e) :: rest)) : a.block ≠ b ∧ (own a.block = lb + 1 ∨ ∃ k,(ent k).isSome = true ∧ own a.block = lk k) ∧ w.frozen? a = false := by
 have hC := h.links X0 hc
 have hm := Vy h hc F
 have hb := (hm b e (Ydz _ Yd0)).1
 have hbig := Ys e.k
 rcases F.at_ with ⟨_,e2⟩ | ⟨pre',b',e',e1,e2⟩
 ·rw [e2]
  unfold Tb.slot at hs
  split at hs
  ·obtain ⟨b',hb',rfl⟩ := hs
   rcases h.oldOk with ⟨_,z⟩ | ⟨b'',arr,z1,z2,z3,_⟩
   ·rw [z] at hb'; simp [Sl] at hb'
   ·rw [z1] at hb'
    simp only [Sl,Value.slice.injEq,Option.some.injEq,Addr.mk.injEq,and_true] at hb'
    rw [← hb']
    refine ⟨fun ee => ?_,.inl z2.1,Zc z3 _⟩
    have ee' : b'' = b := ee
    rw [← ee',z2.1] at hb
    omega
  ·rw [hs]
   refine ⟨fun ee => ?_,.inl h.orb,Zc h.rows _⟩
   have ee' : t.rb = b := ee
   rw [← ee',h.orb] at hb
   omega
 ·rw [e2]
  obtain ⟨m1,_,m3⟩ := hm b' e' (by rw [e1]; simp)
  refine ⟨fun ee => ?_,.inr ⟨e'.k,by rw [m3]; rfl,m1⟩,?_⟩
  ·have ee' : b' = b := ee
   rw [ee',hb] at m1
   have hn := hC.once
   rw [← F.app,e1,Yei,Yee] at hn
   exact (Yeg.1 hn).2.2 _ (Yd4.2 ⟨(b',e'),by simp,rfl⟩) _ Yd0 (Zbf m1).symm
  ·have hl := hC.links
   rw [← F.app,e1] at hl
   exact Zc (Y5.at_ pre' (by simpa using hl)) _
def Km (w : World) (b : Nat) (e : Ent) : World := (((w.setCell ⟨b,0,none⟩ (.int .i64 e.k)).setCell ⟨b,1,none⟩ (.int .i64 e.v)).setCell ⟨b,2,none⟩ (.int .i64 e.w)).setCell ⟨b,3,none⟩ (.int .i64 e.n)
theorem Zn3 (w : World) (e : Ent) (ha : a.block ≠ b) (hs : a.spot = none) (u : Value) : (Km w b e).setCell a u = Km (w.setCell a u) b e := by
 have hne : ∀ j,(⟨b,j,none⟩ : Addr) ≠ a := fun j ee => ha (by rw [← ee])
 unfold Km
 rw [Vi _ (hne 3) _ _ rfl hs,Vi _ (hne 2) _ _ rfl hs,Vi _ (hne 1) _ _ rfl hs,Vi _ (hne 0) _ _ rfl hs]
theorem Zlq {p : Value} (e : Ent) (h : w.heap[b]? = some (Kp e0 p)) : (Km w b e).heap[b]? = some (Kp e p) := by
 unfold Km
 have := Zj (Zj (Zj (Zj h 0 (.int .i64 e.k)) 1 (.int .i64 e.v)) 2 (.int .i64 e.w)) 3 (.int .i64 e.n)
 exact this
theorem Zdl (w : World) (b : Nat) (e : Ent) : Zb (fun k => k = b) w (Km w b e) := by
 unfold Km
 exact (((Yeb (S:=fun k => k = b) (Yd8 _ w) (.inl rfl) _).setCell (.inl rfl) _).setCell (.inl rfl) _).setCell (.inl rfl) _
theorem Zv9 (w : World) (hs : a.spot = none) {u v : Value} (h : w.cell? a = some v) : (w.setCell a u).setCell a v = w := by
 obtain ⟨b,j,s⟩ := a
 simp only at hs
 subst hs
 rw [Zf,Zg h]
theorem Xd.over (h : Xd own w lb x seed ent t) (hlb : lb + 2 < 1000000) {rest : Chn} (hs : t.slot (t.place seed key) a0) (hc : t.at_ (t.place seed key) = some c) (F : Jl w c a0 key a pre ((b,e0) :: rest)) (hk0 : e0.k = key) (hk : e.k = key) :
  ∃ t',Xd own (Km w b e) lb x seed (Kv ent key (some e)) t' ∧ Zp5 t t' := by
 have hC := h.links X0 hc
 obtain ⟨hb,_,he⟩ := Vy h hc F b e0 (Ydz _ Yd0)
 obtain ⟨hne,_,_⟩ := Zt9 h hlb hs hc F
 have hsp := F.spot (Ze7 hs)
 have hl := hC.links
 rw [← F.app] at hl
 have hbl := Y5.at_ pre hl
 have h1 := h.remove hlb hs hc F hk0
 have hbl1 : (w.setCell a (Ym rest)).heap[b]? = some (Kp e0 (Ym rest)) := by rw [RowKit.Below.heap_setCell _ _ _ b hne.symm]; exact hbl
 have h2 : Xd own (Km (w.setCell a (Ym rest)) b e) lb x seed (Kv ent key none) (t.put (t.place seed key) (pre ++ rest)) := h1.kept (Yd5 _ _) (Zdl _ b e) (fun b' _ hlab e' => by
  subst e'
  have hbig := Ys e0.k
  rcases hlab with z | z | ⟨k,e1,z1,z2⟩
  ·omega
  ·omega
  ·rw [hb] at z2
   have hkk := Zbf z2
   rw [← hkk,hk0,Za3] at z1
   cases z1)
 have hF2 : Jl (Km (w.setCell a (Ym rest)) b e) (pre ++ rest) a0 key a pre rest := by
  refine ⟨rfl,F.ne,?_,F.at_⟩
  have h3 : (w.setCell a (Ym rest)).cell? a = some (Ym rest) := World.cell?_setCell_same' _ _ _ (by rw [F.cell]; rfl)
  exact Zd h3 (Zdl _ b e) hne
 have hp : (t.put (t.place seed key) (pre ++ rest)).place seed key = t.place seed key := Zct _ _ _ _ _
 have h4 := h2.insert (b:=b) (e:=e) hlb (by rw [hp]; exact (Zcj _ _ _).slot hs) (by rw [hp]; exact Zn7 hc) hF2 hk (Za3 _ _ _) (Zlq e hbl1) (by rw [hb,hk0])
 rw [Zn3 _ e hne hsp,Zv9 w hsp (v:=Pt b) (by exact F.cell)] at h4
 have hu : Kv (Kv ent key none) key (some e) = Kv ent key (some e) := by
  funext i
  unfold Kv
  split <;> rfl
 rw [hu] at h4
 refine ⟨_,h4,?_⟩
 have l1 := Zcj t (t.place seed key) (pre ++ rest)
 have l2 := Zcj (t.put (t.place seed key) (pre ++ rest)) ((t.put (t.place seed key) (pre ++ rest)).place seed key) (pre ++ (b,e) :: rest)
 exact ⟨l2.cnt.trans l1.cnt,l2.moved.trans l1.moved,l2.old.trans l1.old,l2.os.trans l1.os,l2.rb.trans l1.rb⟩
theorem Xd.count (h : Xd own w lb x seed ent t) (hlb : lb + 2 < 1000000) (n : Int) : Xd own (w.setCell ⟨x,4,none⟩ (.int .i64 n)) lb x seed ent { t with cnt := n } := by
 have hox := h.ox
 have horb := h.orb
 have far : ∀ b,b ≠ x → (w.setCell ⟨x,4,none⟩ (.int .i64 n)).heap[b]? = w.heap[b]? := fun b hb => RowKit.Below.heap_setCell w ⟨x,4,none⟩ _ b hb
 have chain : ∀ (q : Bool × Nat) (d : Chn),Zfw own w seed ent t q d → Zfw own (w.setCell ⟨x,4,none⟩ (.int .i64 n)) seed ent { t with cnt := n } q d := fun q d hd => by
  refine ⟨hd.links.same (fun b e hm => far b (fun e' => ?_)),fun b e hm => hd.mem b e hm,hd.once⟩
  have := (hd.mem b e hm).1
  rw [e',hox] at this
  have := Ys e.k
  omega
 refine ⟨h.ox,h.orb,?_,?_,h.size,h.oldLen,?_,fun i d hd => chain _ d (h.chN i d hd),fun i d hi hd => chain _ d (h.chO i d hi hd),h.all⟩
 ·exact Zj h.block 4 (.int .i64 n)
 ·rw [far _ (fun e => by rw [e,hox] at horb; omega)]; exact h.rows
 ·rcases h.oldOk with a | ⟨b,arr,h1,h2,h3,h4,h5⟩
  ·exact .inl a
  ·exact .inr ⟨b,arr,h1,h2,by rw [far _ (fun e => by have := h2.1; rw [e,hox] at this; omega)]; exact h3,h4,h5⟩
def Z0 (e : Ent) : Obj := .cells #[.int .i64 e.k,.int .i64 e.v,.int .i64 e.w,.int .i64 e.n] 115
def Zs1 (own : Nat → Nat) (w : World) (lb x : Nat) (seed : Int) (ent : Int → Option Ent) (e : Ent) (en : Ending) (w' : World) : Prop :=
 en = .returned (.tuple #[Yg ((ent e.k).getD Zy),.bool (ent e.k).isSome]) ∧ ∃ own' t',Ext w own own' ∧ Qx own' w' lb x seed (Kv ent e.k (some e)) t' ∧ Zb (TbL own lb (fun k => (ent k).isSome = true ∨ k = e.k)) w w'
def ow2 (own : Nat → Nat) (w : World) : Nat → Nat := lab (lab own w.heap.size 0) (w.heap.size + 1) 0
theorem Ziu (h : Qx own w lb x seed ent t) (o1 o2 : Obj) : Qx (ow2 own w) ((w.alloc o1).alloc o2) lb x seed ent t ∧ Ext w own (ow2 own w) ∧ Zb No w ((w.alloc o1).alloc o2) := by
 have he : Ext w own (ow2 own w) := ((Yd5 w own).lab (Yd7 _) _).lab (by omega) _
 have ho : Zb No w ((w.alloc o1).alloc o2) := ((Yd8 No w).alloc _).alloc _
 exact ⟨⟨h.ok.kept he ho (fun _ _ _ h => h),h.rest⟩,he,ho⟩
theorem Zbm (h : Sm w W) (a : Addr) (u : Value) : Sm (w.setCell a u) (W.setCell a u) := ⟨by unfold World.setCell; simp only [h.heap],h.os,h.tape,h.output⟩
theorem Zvl (h : Sm w W) (b : Nat) (e : Ent) : Zb No (Km w b e) (Km W b e) := (Zbm (Zbm (Zbm (Zbm h _ _) _ _) _ _) _ _).only
theorem J1 (h : b < w.heap.size) : ow2 own w b = own b := by unfold ow2; rw [Zq (by omega),Zq (by omega)]
theorem Za0 (h : 1 ≤ lb) {Z : Int → Prop} (hb : own b = 0) : ¬ TbL own lb Z b := fun hT => by
 rcases hT with z | z | ⟨k,_,z⟩
 ·omega
 ·omega
 ·have := Ys k; omega
theorem Zyo (hlb0 : 1 ≤ lb) (hh : ent e.k = some e0) (ho : Zb (TbL (ow2 own w) lb (fun k => (ent k).isSome = true)) ((w.alloc (Z0 e)).alloc (Z0 Zy)) w1) (hs : Sm w1 w2) (hb : ow2 own w b = lk e.k) (ht : Qx (ow2 own w) (Km w2 b e) lb x seed (Kv ent e.k (some e)) t') (hW : Zb (fun k => k = w.heap.size + 1) (Km w2 b e) Wf) :
  Zs1 own w lb x seed ent e (.returned (.tuple #[Yg e0,.bool true])) Wf := by
 have hn1 : ow2 own w (w.heap.size + 1) = 0 := by unfold ow2; rw [Zn]
 refine ⟨by rw [hh]; rfl,ow2 own w,t',((Yd5 w own).lab (Yd7 _) _).lab (by omega) _,⟨ht.ok.kept (Yd5 _ _) hW (fun k _ hl ek => ?_),ht.rest⟩,?_⟩
 ·rw [ek,hn1] at hl
  rcases hl with z | z | ⟨k',_,_,z⟩
  ·omega
  ·omega
  ·have := Ys k'; omega
 ·have o1 : Zb (TbL own lb (fun k => (ent k).isSome = true ∨ k = e.k)) w ((w.alloc (Z0 e)).alloc (Z0 Zy)) := ((Yd8 _ w).alloc _).alloc _
  have o2 := o1.then ho (fun i hi hT => by
   rcases hT with z | z | ⟨k,z1,z2⟩
   ·rw [J1 hi] at z; exact .inl z
   ·rw [J1 hi] at z; exact .inr (.inl z)
   ·rw [J1 hi] at z2; exact .inr (.inr ⟨k,.inl z1,z2⟩))
  have o3 := (o2.trans hs.only).then (Zdl w2 b e) (fun i hi hT => by
   have e' : i = b := hT
   rw [← e',J1 hi] at hb
   exact .inr (.inr ⟨e.k,.inr rfl,hb⟩))
  exact o3.then hW (fun i hi hT => by have e' : i = w.heap.size + 1 := hT; omega)
theorem Zyp (h : Qx own w lb x seed ent t) (hlb0 : 1 ≤ lb) (hlb : lb + 2 < 1000000) (e : Ent) (hh : ent e.k = some e0) :
  Calls Yd2 209 #[Pt x,Yg e] w (Zs1 own w lb x seed ent e) := by
 obtain ⟨s1,s2,s3⟩ := Ziu h (Z0 e) (Z0 Zy)
 have M := Ydy (Zkb s1 hlb)
 have hn0 : ow2 own w w.heap.size = 0 := by unfold ow2; rw [Zq (by omega),Zn]
 have hn1 : ow2 own w (w.heap.size + 1) = 0 := by unfold ow2; rw [Zn]
 have HN := Ydy (Yec hn0 hn1)
 have HB0 : Hid (∀ w1,Zb (TbL (ow2 own w) lb (fun k => (ent k).isSome = true)) ((w.alloc (Z0 e)).alloc (Z0 Zy)) w1 → w1.heap[w.heap.size]? = some (Z0 e) ∧ w1.heap[w.heap.size + 1]? = some (Z0 Zy)) := Ydy (fun w1 ho => by
  have hz : ∀ b,ow2 own w b = 0 → ¬ TbL (ow2 own w) lb (fun k => (ent k).isSome = true) b := fun b hb hT => by
   rcases hT with z | z | ⟨k,_,z⟩
   ·omega
   ·omega
   ·have := Ys k; omega
  exact ⟨ho.kept (Zbv w _ _) (hz _ hn0),ho.kept (Kj w _ _) (hz _ hn1)⟩)
 have HF : Hid (∀ w1 t1,Qx (ow2 own w) w1 lb x seed ent t1 → ∃ a b rest t',Zfb x e.k a w1 ∧ w1.cell? a = some (Pt b) ∧ w1.heap[b]? = some (Kp e0 (Ym rest)) ∧ ow2 own w b = lk e.k ∧ ∀ W,Sm w1 W → Qx (ow2 own w) (Km W b e) lb x seed (Kv ent e.k (some e)) t') := Ydy (fun w1 t1 h1 => by
  obtain ⟨a0,c,hs,hc⟩ := Zcw h1.ok e.k
  obtain ⟨F,FC⟩ := Zaf h1.ok hs hc
  rcases h1.ok.found hc F (Zaz e.k c) with ⟨_,z⟩ | ⟨b,e1,rest,p1,p2,p3,p4,p5,_⟩
  ·rw [hh] at z; cases z
  ·rw [hh] at p3
   cases p3
   rw [p1] at F
   have hcell := F.cell
   generalize Zd2 a0 (spl e.k c).1 = a at *
   generalize (spl e.k c).1 = pre at *
   obtain ⟨t',ht',lk'⟩ := h1.ok.over hlb hs hc F p2 (e:=e) rfl
   refine ⟨a,b,rest,t',FC,hcell,p5,p4,fun W hW => ⟨ht'.kept (Yd5 _ _) ?_ (fun _ _ _ h => h),lk'.rest h1.rest⟩⟩
   exact (show Zb No (Km w1 b e) (Km W b e) from Zvl hW b e))
 have HL := Ydy hlb0
 have HH2 := Ydy hh
 clear s1 s2 s3 h hlb hlb0 hn0 hn1 hh
 go_enter Tryz.func209,Tryz.ntmps209
 unfold Yg
 go_wp2_with fail
 refine (M.out).mono ?_
 rintro en w1 ⟨rfl,t1,h1,hl,hcnt,hol,ho⟩
 obtain ⟨k1,k2⟩ := HB0.out w1 ho
 obtain ⟨a,b,rest,t',q1,q2,q3,q4,q5⟩ := HF.out w1 t1 h1
 have HO := Ydy ho
 have HNE : Hid (b ≠ w.heap.size ∧ b ≠ w.heap.size + 1) := Ydy ⟨fun ee => by have := Ys e.k; rw [ee,HN.out.1] at q4; omega,fun ee => by have := Ys e.k; rw [ee,HN.out.2] at q4; omega⟩
 have Q4 := Ydy q4
 have Q1 : Hid (Calls Yd2 220 #[Pt x,.int .i64 e.k] w1 fun e w' => e = .returned (.pointer (some a)) ∧ Sm w1 w') := Ydy q1
 have Q5 := Ydy q5
 have m0 : w1.cell? ⟨w.heap.size,0,none⟩ = some (.int .i64 e.k) := Za k1 rfl
 have HW2 : Hid (∀ w2,Sm w1 w2 → w2.cell? a = some (Pt b) ∧ w2.heap[b]? = some (Kp e0 (Ym rest)) ∧ w2.heap[w.heap.size]? = some (Z0 e) ∧ w2.heap[w.heap.size + 1]? = some (Z0 Zy)) := Ydy (fun w2 hs => ⟨(hs.cell _).trans q2,hs.block q3,hs.block k1,hs.block k2⟩)
 clear h1 hl hcnt hol ho q1 q2 q3 q4 q5 k1 k2 HB0 HF M
 go_wp2_with fail
 refine (Q1.out).mono ?_
 rintro en w2 ⟨rfl,hs⟩
 obtain ⟨d0,d1,d2,d3⟩ := HW2.out w2 hs
 have l0 := Ze d2
 have l1 := Ze d3
 have l2 := Ze d1
 have y0 : b ≠ w.heap.size := HNE.out.1
 have y1 : b ≠ w.heap.size + 1 := HNE.out.2
 have y2 : w.heap.size ≠ b := fun e => y0 e.symm
 have y3 : w.heap.size + 1 ≠ b := fun e => y1 e.symm
 have y4 : b ≠ w2.heap.size := Yd9 l2
 have y5 : w.heap.size ≠ w2.heap.size := Yd9 l0
 have y6 : w.heap.size + 1 ≠ w2.heap.size := Yd9 l1
 have y7 : w2.heap.size ≠ b := fun e => y4 e.symm
 have y8 : w2.heap.size ≠ w.heap.size := fun e => y5 e.symm
 have y9 : w2.heap.size ≠ w.heap.size + 1 := fun e => y6 e.symm
 obtain ⟨b0,b1,b2,b3,b4,bf0,bf1,bf2,bf3,bf4⟩ := Zm1 d1
 obtain ⟨e0',e1,e2,e3,_⟩ := Yh d2
 obtain ⟨z0,z1,z2,z3,zf0,zf1,zf2,zf3⟩ := Yh d3
 have HS := Ydy hs
 clear hs HW2 Q1 d1 d2 d3 m0
 clear HNE HN
 go_wp2
 have hz : w.heap.size + 1 < w2.heap.size := l1
 refine bodyPost_ret (v:=.tuple #[Yg e0,.bool true]) (by simp [results,Tryz.results209,go_sem,Yg,z0,z1,z2,z3,hz]) rfl ?_
 refine Zyo HL.out HH2.out HO.out HS.out Q4.out (Q5.out _ HS.out) ?_
 exact ((((Yeb (S:=fun k => k = w.heap.size + 1) (Yd8 _ (Km w2 b e)) (.inl rfl) _).setCell (.inl rfl) _).setCell (.inl rfl) _).setCell (.inl rfl) _).alloc _
theorem Xd.slotF (h : Xd own w lb x seed ent t) (hs : t.slot (t.place seed key) a0) (hc : t.at_ (t.place seed key) = some c) (F : Jl w c a0 key a pre post) : w.frozen? a = false ∧ (own a.block = lb + 1 ∨ ∃ k,(ent k).isSome = true ∧ own a.block = lk k) := by
 have hm := Vy h hc F
 have hC := h.links X0 hc
 rcases F.at_ with ⟨_,e2⟩ | ⟨pre',b',e',e1,e2⟩
 ·rw [e2]
  unfold Tb.slot at hs
  split at hs
  ·obtain ⟨b',hb',rfl⟩ := hs
   rcases h.oldOk with ⟨_,z⟩ | ⟨b'',arr,z1,z2,z3,_⟩
   ·rw [z] at hb'; simp [Sl] at hb'
   ·rw [z1] at hb'
    simp only [Sl,Value.slice.injEq,Option.some.injEq,Addr.mk.injEq,and_true] at hb'
    rw [← hb']
    exact ⟨Zc z3 _,.inl z2.1⟩
  ·rw [hs]; exact ⟨Zc h.rows _,.inl h.orb⟩
 ·rw [e2]
  obtain ⟨m1,_,m3⟩ := hm b' e' (by rw [e1]; simp)
  have hl := hC.links
  rw [← F.app,e1] at hl
  exact ⟨Zc (Y5.at_ pre' (by simpa using hl)) _,.inr ⟨e'.k,by rw [m3]; rfl,m1⟩⟩
theorem Zyq (h : Qx own w lb x seed ent t) (hlb : lb + 2 < 1000000) (hh : ent e.k = none) : ∃ a,a.spot = none ∧ a.block ≠ x ∧ Zfb x e.k a w ∧ w.cell? a = some (.pointer none) ∧ w.frozen? a = false ∧ (own a.block = lb + 1 ∨ ∃ k,(ent k).isSome = true ∧ own a.block = lk k) ∧ ∀ W,Sm w W → ∃ t' : Tb,∀ n : Int,Qx (lab own W.heap.size (lk e.k)) (((W.alloc (Kp e (.pointer none))).setCell a (Pt W.heap.size)).setCell ⟨x,4,none⟩ (.int .i64 n)) lb x seed (Kv ent e.k (some e)) ({ t' with cnt := n } : Tb) := by
 obtain ⟨a0,c,hs,hc⟩ := Zcw h.ok e.k
 obtain ⟨F,FC⟩ := Zaf h.ok hs hc
 rcases h.ok.found hc F (Zaz e.k c) with ⟨p1,_⟩ | ⟨b,e1,rest,p1,p2,p3,p4,p5,_⟩
 ·rw [p1] at F
  have hcell := F.cell
  generalize Zd2 a0 (spl e.k c).1 = a at *
  generalize (spl e.k c).1 = pre at *
  obtain ⟨s1,s2⟩ := h.ok.slotF hs hc F
  have hsp := F.spot (Ze7 hs)
  refine ⟨a,hsp,fun ee => ?_,FC,hcell,s1,s2,fun W hW => ?_⟩
  ·have := h.ok.ox
   rw [ee,this] at s2
   rcases s2 with z | ⟨k,_,z⟩
   ·omega
   ·have := Ys k; omega
  have hE : Ext W own (lab own W.heap.size (lk e.k)) := (Yd5 W own).lab (Yd7 _) _
  have ho : Zb No W (W.alloc (Kp e (.pointer none))) := (Yd8 No W).alloc _
  have h1 : Xd (lab own W.heap.size (lk e.k)) (W.alloc (Kp e (.pointer none))) lb x seed ent t := (h.ok.sm hW).kept hE ho (fun _ _ _ h => h)
  have F1 := (F.only hW.only).only ho
  have h2 := h1.insert hlb hs hc F1 (b:=W.heap.size) (e:=e) rfl hh (Zh W _) (Zn _ _ _)
  exact ⟨_,fun n => ⟨h2.count hlb n,(Zcj t _ _).rest h.rest⟩⟩
 ·rw [hh] at p3; cases p3
theorem Zmd {i : Int} (h : (Kv ent k v i).isSome = true) : (ent i).isSome = true ∨ i = k := by
 by_cases e : i = k
 ·exact .inr e
 ·rw [Jg e] at h; exact .inl h
theorem Zvs {own' : Nat → Nat} {W3 w3 : World} {ab : Nat} (hlb0 : 1 ≤ lb) (hh : ent e.k = none) (hox : own x = lb) (hxl : x < w.heap.size) (ho : Zb (TbL (ow2 own w) lb (fun k => (ent k).isSome = true)) ((w.alloc (Z0 e)).alloc (Z0 Zy)) w1) (hs : Sm w1 w2) (hab : ow2 own w ab = lb + 1 ∨ ∃ k,(ent k).isSome = true ∧ ow2 own w ab = lk k) (hn1 : w.heap.size + 1 < w2.heap.size) (hW3 : Zb (fun k => k = ab ∨ k = x) w2 W3)
  (ge : Ext W3 (lab (ow2 own w) w2.heap.size (lk e.k)) own') (gt : Qx own' w3 lb x seed (Kv ent e.k (some e)) t') (go : Zb (TbL (lab (ow2 own w) w2.heap.size (lk e.k)) lb (fun k => (Kv ent e.k (some e) k).isSome = true)) W3 w3) (hW : Zb (fun k => k = w.heap.size + 1) w3 Wf) :
  Zs1 own w lb x seed ent e (.returned (.tuple #[Yg Zy,.bool false])) Wf := by
 have o1 : Zb (TbL own lb (fun k => (ent k).isSome = true ∨ k = e.k)) w ((w.alloc (Z0 e)).alloc (Z0 Zy)) := ((Yd8 _ w).alloc _).alloc _
 have o2 := o1.then ho (fun i hi hT => by
  rcases hT with z | z | ⟨k,z1,z2⟩
  ·rw [J1 hi] at z; exact .inl z
  ·rw [J1 hi] at z; exact .inr (.inl z)
  ·rw [J1 hi] at z2; exact .inr (.inr ⟨k,.inl z1,z2⟩))
 have o3 := (o2.trans hs.only).then hW3 (fun i hi hT => by
  rcases hT with rfl | rfl
  ·rw [J1 hi] at hab
   rcases hab with z | ⟨k,z1,z2⟩
   ·exact .inr (.inl z)
   ·exact .inr (.inr ⟨k,.inl z1,z2⟩)
  ·exact .inl hox)
 have hsz : w.heap.size + 1 < W3.heap.size := Nat.lt_of_lt_of_le hn1 hW3.size
 have hlab : ∀ i,i < w2.heap.size → lab (ow2 own w) w2.heap.size (lk e.k) i = ow2 own w i := fun i hi => Zq (by omega)
 have o4 := o3.then go (fun i hi hT => by
  have hi2 : i < w2.heap.size := by omega
  rcases hT with z | z | ⟨k,z1,z2⟩
  ·rw [hlab i hi2,J1 hi] at z; exact .inl z
  ·rw [hlab i hi2,J1 hi] at z; exact .inr (.inl z)
  ·rw [hlab i hi2,J1 hi] at z2; exact .inr (.inr ⟨k,Zmd z1,z2⟩))
 have hl1 : own' (w.heap.size + 1) = 0 := by rw [ge _ hsz,hlab _ hn1]; unfold ow2; rw [Zn]
 refine ⟨by rw [hh]; rfl,own',t',fun i hi => ?_,⟨gt.ok.kept (Yd5 _ _) hW (fun k _ hl ek => ?_),gt.rest⟩,o4.then hW (fun i hi hT => by have e' : i = w.heap.size + 1 := hT; omega)⟩
 ·rw [ge i (by omega),hlab i (by omega),J1 hi]
 ·rw [ek,hl1] at hl
  rcases hl with z | z | ⟨k',_,_,z⟩
  ·omega
  ·omega
  ·have := Ys k'; omega
theorem Zyr (h : Qx own w lb x seed ent t) (hlb0 : 1 ≤ lb) (hlb : lb + 2 < 1000000) (e : Ent) (hh : ent e.k = none) :
  Calls Yd2 209 #[Pt x,Yg e] w (Zs1 own w lb x seed ent e) := by
 obtain ⟨s1,s2,s3⟩ := Ziu h (Z0 e) (Z0 Zy)
 have M := Ydy (Zkb s1 hlb)
 have hn0 : ow2 own w w.heap.size = 0 := by unfold ow2; rw [Zq (by omega),Zn]
 have hn1 : ow2 own w (w.heap.size + 1) = 0 := by unfold ow2; rw [Zn]
 have HB0 : Hid (∀ w1,Zb (TbL (ow2 own w) lb (fun k => (ent k).isSome = true)) ((w.alloc (Z0 e)).alloc (Z0 Zy)) w1 → w1.heap[w.heap.size]? = some (Z0 e) ∧ w1.heap[w.heap.size + 1]? = some (Z0 Zy)) := Ydy (fun w1 ho => ⟨ho.kept (Zbv w _ _) (Za0 hlb0 hn0),ho.kept (Kj w _ _) (Za0 hlb0 hn1)⟩)
 have HF : Hid (∀ w1 t1,Qx (ow2 own w) w1 lb x seed ent t1 → ∃ a,a.spot = none ∧ a.block ≠ x ∧ Zfb x e.k a w1 ∧ w1.cell? a = some (.pointer none) ∧ w1.frozen? a = false ∧ (ow2 own w a.block = lb + 1 ∨ ∃ k,(ent k).isSome = true ∧ ow2 own w a.block = lk k) ∧ ∀ W,Sm w1 W → ∃ t' : Tb,∀ n : Int,Qx (lab (ow2 own w) W.heap.size (lk e.k)) (((W.alloc (Kp e (.pointer none))).setCell a (Pt W.heap.size)).setCell ⟨x,4,none⟩ (.int .i64 n)) lb x seed (Kv ent e.k (some e)) ({ t' with cnt := n } : Tb)) := Ydy (fun w1 t1 h1 => Zyq h1 hlb hh)
 have HL := Ydy (Yec hlb0 (Yec hlb (Ze h.ok.block)))
 have HH2 := Ydy hh
 have HX := Ydy h.ok.ox
 clear s1 s2 s3 h hlb hlb0 hn0 hn1 hh
 go_enter Tryz.func209,Tryz.ntmps209
 unfold Yg
 go_wp2_with fail
 refine (M.out).mono ?_
 rintro en w1 ⟨rfl,t1,h1,hl,hcnt,hol,ho⟩
 obtain ⟨k1,k2⟩ := HB0.out w1 ho
 obtain ⟨a,hsp,hax,q1,q2,q3,q4,q5⟩ := HF.out w1 t1 h1
 obtain ⟨ab,ao,asp⟩ := a
 simp only at hsp
 subst hsp
 have hax1 : ab ≠ x := hax
 have hax2 : x ≠ ab := fun e => hax e.symm
 have hx := h1.ok.block
 have HO := Ydy ho
 have Q1 : Hid (Calls Yd2 220 #[Pt x,.int .i64 e.k] w1 fun e w' => e = .returned (.pointer (some ⟨ab,ao,none⟩)) ∧ Sm w1 w') := Ydy q1
 have Q4 := Ydy q4
 have Q5 := Ydy q5
 have m0 : w1.cell? ⟨w.heap.size,0,none⟩ = some (.int .i64 e.k) := Za k1 rfl
 have HW2 : Hid (∀ w2,Sm w1 w2 → w2.cell? ⟨ab,ao,none⟩ = some (.pointer none) ∧ w2.frozen? ⟨ab,ao,none⟩ = false ∧ w2.heap[w.heap.size]? = some (Z0 e) ∧ w2.heap[w.heap.size + 1]? = some (Z0 Zy) ∧ w2.cell? ⟨x,4,none⟩ = some (.int .i64 t1.cnt) ∧ w2.frozen? ⟨x,4,none⟩ = false ∧ x < w2.heap.size) := Ydy (fun w2 hs => ⟨(hs.cell _).trans q2,(hs.frozen _).trans q3,hs.block k1,hs.block k2,Za (hs.block hx) rfl,Zc (hs.block hx) _,Ze (hs.block hx)⟩)
 clear h1 hl hcnt hol ho q1 q2 q3 q4 q5 k1 k2 HB0 HF M hx hax
 go_wp2_with fail
 refine (Q1.out).mono ?_
 rintro en w2 ⟨rfl,hs⟩
 obtain ⟨d0,d1,d2,d3,d4,d5,d6⟩ := HW2.out w2 hs
 obtain ⟨t',ht'⟩ := Q5.out w2 hs
 have l0 := Ze d2
 have l1 := Ze d3
 have l2 : ab < w2.heap.size := World.block_lt_of_cell? w2 _ d0
 have y5 : w.heap.size ≠ w2.heap.size := Yd9 l0
 have y6 : w.heap.size + 1 ≠ w2.heap.size := Yd9 l1
 have y8 : w2.heap.size ≠ w.heap.size := fun e => y5 e.symm
 have y10 : ab ≠ w2.heap.size := Yd9 l2
 have y11 : w2.heap.size ≠ ab := fun e => y10 e.symm
 have y12 : x ≠ w2.heap.size := Yd9 d6
 have y13 : w2.heap.size ≠ x := fun e => y12 e.symm
 have y9 : w2.heap.size ≠ w.heap.size + 1 := fun e => y6 e.symm
 obtain ⟨e0',e1,e2,e3,_⟩ := Yh d2
 have HZ := Ydy d3
 have HS := Ydy hs
 have HT := Ydy ht'
 clear hs HW2 Q1 d2 d3 m0 Q5 ht'
 have hWe : ((w2.alloc (Kp e (.pointer none))).setCell ⟨ab,ao,none⟩ (Pt w2.heap.size)).setCell ⟨x,4,none⟩ (.int .i64 (wrap64 (t1.cnt + 1))) = ((w2.setCell ⟨ab,ao,none⟩ (Pt w2.heap.size)).setCell ⟨x,4,none⟩ (.int .i64 (wrap64 (t1.cnt + 1)))).alloc (Kp e (.pointer none)) := by simp [go_sem,l2,d6]
 have hTn := HT.out (wrap64 (t1.cnt + 1))
 rw [hWe] at hTn
 have G := Ydy (Ybl hTn HL.out.2.1)
 have HN1 : Hid ((((w2.setCell ⟨ab,ao,none⟩ (Pt w2.heap.size)).setCell ⟨x,4,none⟩ (.int .i64 (wrap64 (t1.cnt + 1)))).alloc (Kp e (.pointer none))).heap[w.heap.size + 1]? = some (Z0 Zy)) := Ydy (by
  refine Zm (Z7 (Z7 HZ.out ?_ _ _) ?_ _ _)
  ·intro ee
   have q : ow2 own w ab = lb + 1 ∨ ∃ k,(ent k).isSome = true ∧ ow2 own w ab = lk k := Q4.out
   have hn1 : ow2 own w (w.heap.size + 1) = 0 := by unfold ow2; rw [Zn]
   have ee' : w.heap.size + 1 = ab := ee
   rw [← ee',hn1] at q
   rcases q with z | ⟨k,_,z⟩
   ·omega
   ·have := Ys k; omega
  ·intro ee
   have hc := HL.out.2.2
   have ee' : w.heap.size + 1 = x := ee
   omega)
 have HW3 : Hid (Zb (fun k => k = ab ∨ k = x) w2 (((w2.setCell ⟨ab,ao,none⟩ (Pt w2.heap.size)).setCell ⟨x,4,none⟩ (.int .i64 (wrap64 (t1.cnt + 1)))).alloc (Kp e (.pointer none)))) := Ydy (((Yeb (S:=fun k => k = ab ∨ k = x) (Yd8 _ w2) (.inl (.inl rfl)) _).setCell (.inl (.inr rfl)) _).alloc _)
 have HN2 := Ydy l1
 clear hTn hWe HT HZ l1
 go_wp2_with fail
 refine (G.out).mono ?_
 rintro en w3 ⟨rfl,own',t3,ge,gt,gc,go⟩
 have hn1 := go.kept HN1.out (Za0 HL.out.1 (by rw [Zq (by have := HN2.out; omega)]; unfold ow2; rw [Zn]))
 obtain ⟨z0,z1,z2,z3,zf0,zf1,zf2,zf3⟩ := Yh hn1
 have HE := Ydy (Yec ge (Yec gt go))
 clear ge gt gc go G hn1 HN1
 go_wp2
 refine bodyPost_ret (v:=.tuple #[Yg Zy,.bool false]) (by simp [results,Tryz.results209,go_sem,Yg,Zy,z0,z1,z2,z3]) rfl ?_
 obtain ⟨ge,gt,go⟩ := HE.out
 exact Zvs HL.out.1 HH2.out HX.out HL.out.2.2 HO.out HS.out Q4.out HN2.out HW3.out ge gt go ((((Yeb (S:=fun k => k = w.heap.size + 1) (Yd8 _ w3) (.inl rfl) _).setCell (.inl rfl) _).setCell (.inl rfl) _).setCell (.inl rfl) _)
theorem Yc8 (h : Qx own w lb x seed ent t) (hlb0 : 1 ≤ lb) (hlb : lb + 2 < 1000000) (e : Ent) : Calls Yd2 209 #[Pt x,Yg e] w (Zs1 own w lb x seed ent e) := by
 cases hh : ent e.k with
 | none => exact Zyr h hlb0 hlb e hh
 | some e0 => exact Zyp h hlb0 hlb e hh
def Zp7 (own : Nat → Nat) (w : World) (lb x : Nat) (seed : Int) (ent : Int → Option Ent) (key : Int) (en : Ending) (w' : World) : Prop :=
 en = .returned (.tuple #[Yg ((ent key).getD Zy),.bool (ent key).isSome]) ∧ ∃ own' t',Ext w own own' ∧ Qx own' w' lb x seed (Kv ent key none) t' ∧ Zb (TbL own lb (fun k => (ent k).isSome = true)) w w'
theorem Zx7 (c : Chn) : ∃ p,Ym c = .pointer p := by
 cases c with
 | nil => exact ⟨_,rfl⟩
 | cons q l => exact ⟨_,rfl⟩
theorem Zsk (h : ent key = none) : Kv ent key none = ent := by
 funext i
 unfold Kv
 split
 ·rename_i e; rw [e,h]
 ·rfl
def ow1 (own : Nat → Nat) (w : World) : Nat → Nat := lab own w.heap.size 0
theorem Vh (h : b < w.heap.size) : ow1 own w b = own b := by unfold ow1; rw [Zq (by omega)]
theorem Ziv (h : Qx own w lb x seed ent t) (o1 : Obj) : Qx (ow1 own w) (w.alloc o1) lb x seed ent t ∧ Ext w own (ow1 own w) ∧ Zb No w (w.alloc o1) := by
 have he : Ext w own (ow1 own w) := (Yd5 w own).lab (Yd7 _) _
 have ho : Zb No w (w.alloc o1) := (Yd8 No w).alloc _
 exact ⟨⟨h.ok.kept he ho (fun _ _ _ h => h),h.rest⟩,he,ho⟩
theorem Zpr {ent' : Int → Option Ent} {S : Nat → Prop} (hlb0 : 1 ≤ lb) (he' : Kv ent key none = ent') (ho : Zb (TbL (ow1 own w) lb (fun k => (ent k).isSome = true)) (w.alloc (Z0 Zy)) w1) (hS : Zb S w1 w2) (hSl : ∀ b,S b → TbL (ow1 own w) lb (fun k => (ent k).isSome = true) b) (ht : Qx (ow1 own w) w2 lb x seed ent' t') (hW : Zb (fun k => k = w.heap.size) w2 Wf) :
  Zp7 own w lb x seed ent key (.returned (.tuple #[Yg ((ent key).getD Zy),.bool (ent key).isSome])) Wf := by
 have hn0 : ow1 own w w.heap.size = 0 := Zn _ _ _
 have hold : ∀ i,i < w.heap.size → TbL (ow1 own w) lb (fun k => (ent k).isSome = true) i → TbL own lb (fun k => (ent k).isSome = true) i := fun i hi hT => by
  rcases hT with z | z | ⟨k,z1,z2⟩
  ·rw [Vh hi] at z; exact .inl z
  ·rw [Vh hi] at z; exact .inr (.inl z)
  ·rw [Vh hi] at z2; exact .inr (.inr ⟨k,z1,z2⟩)
 have o1 : Zb (TbL own lb (fun k => (ent k).isSome = true)) w (w.alloc (Z0 Zy)) := (Yd8 _ w).alloc _
 have o2 := o1.then ho hold
 have o3 := o2.then hS (fun i hi hT => hold i hi (hSl i hT))
 refine ⟨rfl,ow1 own w,t',(Yd5 w own).lab (Yd7 _) _,⟨?_,ht.rest⟩,o3.then hW (fun i hi hT => by have e' : i = w.heap.size := hT; omega)⟩
 rw [he']
 refine ht.ok.kept (Yd5 _ _) hW (fun k _ hl ek => ?_)
 rw [ek,hn0] at hl
 rcases hl with z | z | ⟨k',_,_,z⟩
 ·omega
 ·omega
 ·have := Ys k'; omega
theorem Zyw (h : Qx own w lb x seed ent t) (hlb : lb + 2 < 1000000) (hh : ent key = some e) : ∃ ab ao b rest,ab ≠ x ∧ ab ≠ b ∧ Zfb x key ⟨ab,ao,none⟩ w ∧ w.cell? ⟨ab,ao,none⟩ = some (Pt b) ∧ w.frozen? ⟨ab,ao,none⟩ = false ∧ w.heap[b]? = some (Kp e (Ym rest)) ∧ own b = lk key ∧ TbL own lb (fun k => (ent k).isSome = true) ab ∧ ∀ W,Sm w W → ∃ t' : Tb,∀ n : Int,Qx own ((W.setCell ⟨ab,ao,none⟩ (Ym rest)).setCell ⟨x,4,none⟩ (.int .i64 n)) lb x seed (Kv ent key none) ({ t' with cnt := n } : Tb) := by
 obtain ⟨a0,c,hs,hc⟩ := Zcw h.ok key
 obtain ⟨F,FC⟩ := Zaf h.ok hs hc
 rcases h.ok.found hc F (Zaz key c) with ⟨_,z⟩ | ⟨b,e1,rest,p1,p2,p3,p4,p5,_⟩
 ·rw [hh] at z; cases z
 ·rw [hh] at p3
  cases p3
  rw [p1] at F
  have hcell := F.cell
  have hsp := F.spot (Ze7 hs)
  obtain ⟨s1,s2⟩ := h.ok.slotF hs hc F
  obtain ⟨g1,_,_⟩ := Zt9 h.ok hlb hs hc F
  generalize Zd2 a0 (spl key c).1 = a at *
  generalize (spl key c).1 = pre at *
  obtain ⟨ab,ao,asp⟩ := a
  simp only at hsp
  subst hsp
  refine ⟨ab,ao,b,rest,fun ee => ?_,g1,FC,hcell,s1,p5,p4,?_,fun W hW => ?_⟩
  ·have := h.ok.ox
   rw [show (⟨ab,ao,none⟩ : Addr).block = ab from rfl,ee,this] at s2
   rcases s2 with z | ⟨k,_,z⟩
   ·omega
   ·have := Ys k; omega
  ·rcases s2 with z | ⟨k,z1,z2⟩
   ·exact .inr (.inl z)
   ·exact .inr (.inr ⟨k,z1,z2⟩)
  ·have h2 := (h.ok.sm hW).remove hlb hs hc (F.only hW.only) p2
   exact ⟨_,fun n => ⟨h2.count hlb n,(Zcj t _ _).rest h.rest⟩⟩
theorem Zyv (h : Qx own w lb x seed ent t) (hlb0 : 1 ≤ lb) (hlb : lb + 2 < 1000000) (key : Int) (hh : ent key = some e) :
  Calls Yd2 223 #[Pt x,.int .i64 key] w (Zp7 own w lb x seed ent key) := by
 obtain ⟨s1,s2,s3⟩ := Ziv h (Z0 Zy)
 have M := Ydy (Zkb s1 hlb)
 have hn0 : ow1 own w w.heap.size = 0 := Zn _ _ _
 have HB0 : Hid (∀ w1,Zb (TbL (ow1 own w) lb (fun k => (ent k).isSome = true)) (w.alloc (Z0 Zy)) w1 → w1.heap[w.heap.size]? = some (Z0 Zy)) := Ydy (fun w1 ho => ho.kept (Zh w _) (Za0 hlb0 hn0))
 have HF := Ydy (fun w1 t1 (h1 : Qx (ow1 own w) w1 lb x seed ent t1) => Zyw h1 hlb hh)
 have HL := Ydy (Yec hlb0 (Yec hlb (Yec (Ze h.ok.block) h.ok.ox)))
 have HRV : Hid (Zp7 own w lb x seed ent key = Zp7 own w lb x seed ent key ∧ (.tuple #[Yg ((ent key).getD Zy),.bool (ent key).isSome] : Value) = .tuple #[Yg e,.bool true]) := Ydy ⟨rfl,by rw [hh]; rfl⟩
 clear s1 s2 s3 h hlb hlb0 hn0 hh
 go_enter Tryz.func223,Tryz.ntmps223
 go_wp2_with fail
 refine (M.out).mono ?_
 rintro en w1 ⟨rfl,t1,h1,hl,hcnt,hol,ho⟩
 have k1 := HB0.out w1 ho
 obtain ⟨ab,ao,b,rest,y1,y2,q1,q2,q3,q4,q5,q6,q7⟩ := HF.out w1 t1 h1
 have hx := h1.ok.block
 have HO := Ydy ho
 have Q1 : Hid (Calls Yd2 220 #[Pt x,.int .i64 key] w1 fun e w' => e = .returned (.pointer (some ⟨ab,ao,none⟩)) ∧ Sm w1 w') := Ydy q1
 have Q6 := Ydy q6
 have Q7 := Ydy q7
 have HNE : Hid (b ≠ w.heap.size ∧ ab ≠ w.heap.size ∧ x ≠ w.heap.size ∧ b ≠ x) := Ydy (by
  have hn0 : ow1 own w w.heap.size = 0 := Zn _ _ _
  have hbig := Ys key
  refine ⟨fun ee => ?_,fun ee => ?_,fun ee => ?_,fun ee => ?_⟩
  ·rw [ee,hn0] at q5; omega
  ·rw [ee] at q6; exact Za0 HL.out.1 hn0 q6
  ·have := HL.out.2.2.1; omega
  ·rw [ee,Vh HL.out.2.2.1,HL.out.2.2.2] at q5
   have := HL.out.2.1
   omega)
 have HW2 : Hid (∀ w2,Sm w1 w2 → w2.cell? ⟨ab,ao,none⟩ = some (Pt b) ∧ w2.frozen? ⟨ab,ao,none⟩ = false ∧ w2.heap[b]? = some (Kp e (Ym rest)) ∧ w2.heap[w.heap.size]? = some (Z0 Zy) ∧ w2.cell? ⟨x,4,none⟩ = some (.int .i64 t1.cnt) ∧ w2.frozen? ⟨x,4,none⟩ = false) := Ydy (fun w2 hs => ⟨(hs.cell _).trans q2,(hs.frozen _).trans q3,hs.block q4,hs.block k1,Za (hs.block hx) rfl,Zc (hs.block hx) _⟩)
 clear h1 hl hcnt hol ho q1 q2 q3 q4 q5 q6 q7 k1 HB0 HF M hx
 go_wp2_with fail
 refine (Q1.out).mono ?_
 rintro en w2 ⟨rfl,hs⟩
 obtain ⟨d0,d1,d2,d3,d4,d5⟩ := HW2.out w2 hs
 obtain ⟨t',ht'⟩ := Q7.out w2 hs
 obtain ⟨b0,b1,b2,b3,b4,_⟩ := Zm1 d2
 obtain ⟨z0,z1,z2,z3,zf0,zf1,zf2,zf3⟩ := Yh d3
 obtain ⟨n1,n2,n3,n4⟩ := HNE.out
 have m1 : w.heap.size ≠ b := fun e => n1 e.symm
 have m2 : w.heap.size ≠ ab := fun e => n2 e.symm
 have m3 : w.heap.size ≠ x := fun e => n3 e.symm
 have m4 : x ≠ b := fun e => n4 e.symm
 have m5 : x ≠ ab := fun e => y1 e.symm
 have m6 : b ≠ ab := fun e => y2 e.symm
 have HS := Ydy hs
 have HT := Ydy ht'
 clear hs HW2 Q1 d2 d3 Q7 ht'
 obtain ⟨lp,hlp⟩ := Zx7 rest
 rw [hlp] at HT b4
 clear hlp
 go_wp2
 refine bodyPost_ret (v:=.tuple #[Yg e,.bool true]) (by simp [results,Tryz.results223,go_sem,Yg,z0,z1,z2,z3]) rfl ?_
 rw [← HRV.out.2]
 refine Zpr HL.out.1 rfl HO.out ((Yeb (S:=fun k => k = ab ∨ k = x) (HS.out.only) (.inl (.inl rfl)) (.pointer lp)).setCell (.inl (.inr rfl)) _) (fun b' hb' => ?_) (HT.out _) ((((Yeb (S:=fun k => k = w.heap.size) (Yd8 _ _) (.inl rfl) _).setCell (.inl rfl) _).setCell (.inl rfl) _).setCell (.inl rfl) _)
 rcases hb' with rfl | rfl
 ·exact Q6.out
 ·exact .inl (by rw [Vh HL.out.2.2.1]; exact HL.out.2.2.2)
theorem Zv1 (h : Qx own w lb x seed ent t) (hlb0 : 1 ≤ lb) (hlb : lb + 2 < 1000000) (key : Int) (hh : ent key = none) :
  Calls Yd2 223 #[Pt x,.int .i64 key] w (Zp7 own w lb x seed ent key) := by
 obtain ⟨s1,s2,s3⟩ := Ziv h (Z0 Zy)
 have M := Ydy (Zkb s1 hlb)
 have hn0 : ow1 own w w.heap.size = 0 := Zn _ _ _
 have HB0 : Hid (∀ w1,Zb (TbL (ow1 own w) lb (fun k => (ent k).isSome = true)) (w.alloc (Z0 Zy)) w1 → w1.heap[w.heap.size]? = some (Z0 Zy)) := Ydy (fun w1 ho => ho.kept (Zh w _) (Za0 hlb0 hn0))
 have HF : Hid (∀ w1 t1,Qx (ow1 own w) w1 lb x seed ent t1 → ∃ a,Zfb x key a w1 ∧ w1.cell? a = some (.pointer none)) := Ydy (fun w1 t1 h1 => by
  obtain ⟨a0,c,hs,hc⟩ := Zcw h1.ok key
  obtain ⟨F,FC⟩ := Zaf h1.ok hs hc
  rcases h1.ok.found hc F (Zaz key c) with ⟨p1,_⟩ | ⟨b,e1,rest,p1,p2,p3,p4,p5,_⟩
  ·have hcell := F.cell
   rw [p1] at hcell
   exact ⟨_,FC,hcell⟩
  ·rw [hh] at p3; cases p3)
 have HL := Ydy (Yec hlb0 hlb)
 have HRV : Hid ((.tuple #[Yg ((ent key).getD Zy),.bool (ent key).isSome] : Value) = .tuple #[Yg Zy,.bool false] ∧ Kv ent key none = ent) := Ydy ⟨by rw [hh]; rfl,Zsk hh⟩
 clear s1 s2 s3 h hlb hlb0 hn0 hh
 go_enter Tryz.func223,Tryz.ntmps223
 go_wp2_with fail
 refine (M.out).mono ?_
 rintro en w1 ⟨rfl,t1,h1,hl,hcnt,hol,ho⟩
 have k1 := HB0.out w1 ho
 obtain ⟨a,q1,q2⟩ := HF.out w1 t1 h1
 have HO := Ydy ho
 have HT := Ydy h1
 have Q1 : Hid (Calls Yd2 220 #[Pt x,.int .i64 key] w1 fun e w' => e = .returned (.pointer (some a)) ∧ Sm w1 w') := Ydy q1
 have HW2 : Hid (∀ w2,Sm w1 w2 → w2.cell? a = some (.pointer none) ∧ w2.heap[w.heap.size]? = some (Z0 Zy)) := Ydy (fun w2 hs => ⟨(hs.cell _).trans q2,hs.block k1⟩)
 clear h1 hl hcnt hol ho q1 q2 k1 HB0 HF M
 go_wp2_with fail
 refine (Q1.out).mono ?_
 rintro en w2 ⟨rfl,hs⟩
 obtain ⟨d0,d3⟩ := HW2.out w2 hs
 obtain ⟨z0,z1,z2,z3,zf0,zf1,zf2,zf3⟩ := Yh d3
 have HS := Ydy hs
 clear hs HW2 Q1 d3
 go_wp2
 refine bodyPost_ret (v:=.tuple #[Yg Zy,.bool false]) (by simp [results,Tryz.results223,go_sem,Yg,Zy,z0,z1,z2,z3]) rfl ?_
 rw [← HRV.out.1]
 refine Zpr HL.out.1 HRV.out.2 HO.out HS.out.only (fun b' hb' => (hb' : False).elim) ⟨HT.out.ok.sm HS.out,HT.out.rest⟩ ?_
 first
  | exact Yd8 _ _
  | exact (((Yeb (S:=fun k => k = w.heap.size) (Yd8 _ _) (.inl rfl) _).setCell (.inl rfl) _).setCell (.inl rfl) _).setCell (.inl rfl) _
theorem Zl9 (h : Qx own w lb x seed ent t) (hlb0 : 1 ≤ lb) (hlb : lb + 2 < 1000000) (key : Int) : Calls Yd2 223 #[Pt x,.int .i64 key] w (Zp7 own w lb x seed ent key) := by
 cases hh : ent key with
 | none => exact Zv1 h hlb0 hlb key hh
 | some e0 => exact Zyv h hlb0 hlb key hh
end
end Go.Proofs.YtdkhbegheognnaaGreatDoor.W

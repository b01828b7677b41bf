/- Part of the proof of TopEvicts, joined by a program of the session: Mcg Mch Mbq. -/
import Derived.Test.YtdkhbegheognnaaGreatDoorJ18
import Derived.Deep.RegionHeld3
import Derived.Deep.RegionLaw
namespace Go.Proofs.YtdkhbegheognnaaGreatDoor.W
open Go.RowKit Go.Maps
open _root_.List renaming getElem_cons_succ → Ydz, getElem_cons_zero → Yd0, getElem_toArray → Yd1, setIfInBounds_toArray → Yd2, set_cons_succ → Yd3, set_cons_zero → Yd4
open _root_.Or renaming inl → Yd5
open _root_.Go.Proofs.Tryz renaming prog → Yd6
open Zb renaming refl → Yd7
open _root_.Nat renaming zero_le → Yd8, ne_of_lt → Yd9
set_option maxHeartbeats 4000000
set_option maxRecDepth 100000
variable {w w' W : World}
variable {v : Value}
variable {l : List Op}
variable {a : Option Addr}
variable {ps : List (List Op)}
variable {own : Nat → Nat}
variable {c : Cfg}
variable {p x : Nat}
section
attribute [local go_sem] World.setCell_drew Zg Zf
def Zb5 (c : Cfg) : Value := .agg #[.int .i64 c.cap,.int .i64 c.seed,.int .i64 c.shards,.int .i64 c.stripes,.int .i64 c.ring,.int .i64 c.writes]
def J2 (c : Cfg) : Obj := .cells #[.int .i64 c.cap,.int .i64 c.seed,.int .i64 c.shards,.int .i64 c.stripes,.int .i64 c.ring,.int .i64 c.writes] 23
def Zc8 (w : World) (v : Value) (l : List Op) : Prop := (v = .slice none 0 0 ∧ l = []) ∨ ∃ ad c,v = .slice (some ad) l.length c ∧ l.length ≤ c ∧ ∀ j u,(Jr l)[j]? = some u → w.cell? (ad.add j) = some u
def Jh (w : World) (a : Option Addr) (ps : List (List Op)) : Prop := ∀ (k : Nat) (l : List Op),ps[k]? = some l → ∃ ad v,a = some ad ∧ w.cell? (ad.add k) = some v ∧ Zc8 w v l
theorem Zbh (l : List Op) : (Jr l).length = l.length * 4 := by
 induction l with
 | nil => rfl
 | cons e r ih => simp only [Jr,opF,List.flatMap_cons,List.length_append,List.length_cons,List.length_nil] at *; omega
theorem Zc8.src (h : Zc8 w v l) : Zc4 w 4 v l.length (Jr l) := by
 refine ⟨Zbh l,?_⟩
 rcases h with ⟨rfl,rfl⟩ | ⟨ad,c,rfl,_,hc⟩
 ·exact ⟨none,0,rfl,.inl rfl⟩
 ·exact ⟨_,_,rfl,.inr ⟨ad,rfl,hc⟩⟩
theorem Zc8.no (h : Zc8 w v l) (ho : Zb No w w') : Zc8 w' v l := by
 rcases h with h | ⟨ad,c,h1,h2,hc⟩
 ·exact .inl h
 ·exact .inr ⟨ad,c,h1,h2,fun j u hu => Zd (hc j u hu) ho (fun h => h)⟩
theorem Jh.no (h : Jh w a ps) (ho : Zb No w w') : Jh w' a ps := fun k l hl => by
 obtain ⟨ad,v,h1,h2,h3⟩ := h k l hl
 exact ⟨ad,v,h1,Zd h2 ho (fun h => h),h3.no ho⟩
theorem Qm.only {n : Nat} {km : Option Nat} {ex px rx wx : Nat} (h : Qm own w c n km ex px rx wx W) : Zb No w W := by
 obtain ⟨own',el,pl,rv,rxs,rcs,wm,h1,h2,_⟩ := h
 exact h2
theorem Zje.only {km ex px rx wx : Nat} (h : Zje own w c p km ex px rx wx W) : Zb No w W := by
 obtain ⟨own',el,pl,rv,rxs,rcs,wm,h1,h2,_⟩ := h
 exact h2
theorem Zdv.down {w0 : World} {k : Nat} (h : Zdv own w0 c ps p x k v W) (ho : Zb No w w0) : Zdv own w c ps p x k v W := by
 obtain ⟨own',L,h1,h2,h3,h4,h5,h6,h7,h8,h9,h10,h11⟩ := h
 have hz := ho.size
 exact ⟨own',L,fun b hb => h1 b (by omega),ho.trans h2,h3,h4,h5,h6,h7,by omega,h9,h10,fun b hb => by have := h11 b hb; omega⟩
theorem Yb9 (a : Addr) : a.add 0 = a := by
 obtain ⟨b,o,p⟩ := a
 unfold Addr.add
 split <;> simp_all
theorem Zpv {t e : TypeId} (ht : Yd6.underlying t = some (.slice e)) (he : Yd6.elem t = e) {s : Nat} (hs : ∀ W,(sizeOf e).run Yd6 W = .ok s W) (a : Option Addr) (n cp : Nat) (h : n ≤ cp) (W : World) : (Instr.slice t (.slice a n cp) none (some (.int .i64 (n : Int))) none).run Yd6 W = .ok (.slice a n cp) W := by
 have := run_slice_h (P:=Yd6) W t a n cp (by rw [he]; exact ht) .i64 (n : Int) (by omega) (by omega)
 rw [this,he,hs]
 cases a with
 | none => simp [sliced]
 | some a => simp [sliced,Yb9]
theorem Ycf (a : Option Addr) (n cp : Nat) (h : n ≤ cp) (W : World) : (Instr.slice 24 (.slice a n cp) none (some (.int .i64 (n : Int))) none).run Yd6 W = .ok (.slice a n cp) W := Zpv (e:=42) Tryz.underlying24 (by kernel_rfl) (s:=1) (fun W => by kernel_rfl) a n cp h W
theorem Ycg (a : Option Addr) (n cp : Nat) (h : n ≤ cp) (W : World) : (Instr.slice 42 (.slice a n cp) none (some (.int .i64 (n : Int))) none).run Yd6 W = .ok (.slice a n cp) W := Zpv (e:=44) Tryz.underlying42 (by kernel_rfl) (s:=4) (fun W => by kernel_rfl) a n cp h W
theorem Zmr.slice {k : Nat} {u : Value} (h : Zmr own w c ps p x k v u l W) : ∃ a n c,u = .slice a n c := by
 obtain ⟨own',L,h1,h2,h3,h4,h5,h6,h7,h8,h9,h10,h11,h12⟩ := h
 rcases h12.form with ⟨h,_⟩ | ⟨g,cap,h,_⟩
 ·exact ⟨_,_,_,h⟩
 ·exact ⟨_,_,_,h⟩
theorem Zc8.form (h : Zc8 w v l) : ∃ a c,v = .slice a l.length c ∧ l.length ≤ c := by
 rcases h with ⟨rfl,rfl⟩ | ⟨ad,c,rfl,h,_⟩
 ·exact ⟨none,0,rfl,Nat.le_refl _⟩
 ·exact ⟨_,_,rfl,h⟩
def Zst (W : World) (B : Nat) (c : Cfg) : Prop := W.cell? ⟨B,0,none⟩ = some (.int .i64 c.cap) ∧ W.cell? ⟨B,1,none⟩ = some (.int .i64 c.seed) ∧ W.cell? ⟨B,2,none⟩ = some (.int .i64 c.shards) ∧ W.cell? ⟨B,3,none⟩ = some (.int .i64 c.stripes) ∧ W.cell? ⟨B,4,none⟩ = some (.int .i64 c.ring) ∧ W.cell? ⟨B,5,none⟩ = some (.int .i64 c.writes)
theorem Ztx (own : Nat → Nat) {cp : Nat} (c : Cfg) (ps : List (List Op)) (hc : c.cap ≤ 512) (hps : ps.length ≤ 64) (hl : ∀ p ∈ ps,p.length ≤ 1000) (hp : Jh w a ps) (ha : ps.length ≤ cp) :
  Calls Yd6 6 #[Zb5 c,.slice a ps.length cp] w fun e w' => ∃ x p v,e = .returned (Pt x) ∧ Zdv own w c ps p x ps.length v w' := by
 have HP := Ydy hp
 have HL := Ydy hl
 have HOW : Hid (∀ x p v W,Zdv own (w.alloc (J2 c)) c ps p x ps.length v W → Zdv own w c ps p x ps.length v W) := Ydy (fun x p v W h => h.down ((Yd7 No w).alloc _))
 have CS : Hid (∀ W,Zb No (w.alloc (J2 c)) W → Zst W w.heap.size c) := Ydy (fun W hW => by
  have b := hW.kept (Zh w (J2 c)) (fun h => h)
  exact ⟨Za b rfl,Za b rfl,Za b rfl,Za b rfl,Za b rfl,Za b rfl⟩)
 have hBl : w.heap.size < (w.alloc (J2 c)).heap.size := by simp
 clear hp hl
 unfold Zb5
 unfold J2 at CS HOW hBl
 have hmm := @run_makeMap Yd6
 have hmx : (if 0 < c.cap then c.cap else 0) = Qg c.cap := by unfold Qg; split <;> split <;> omega
 have hmn : (if 4611686018427387903 < Qg c.cap then 4611686018427387903 else Qg c.cap) = Qg c.cap := if_neg (by unfold Qg; split <;> omega)
 go_enter Tryz.func6,Tryz.ntmps6
 go_upto_region 1 with (fail)
 generalize hB : w.heap.size = B at *
 obtain ⟨k0,k1,k2,k3,k4,k5⟩ := CS.out _ (Yd7 No _)
 generalize hw0 : w.alloc (.cells #[.int .i64 c.cap,.int .i64 c.seed,.int .i64 c.shards,.int .i64 c.stripes,.int .i64 c.ring,.int .i64 c.writes] 23) = w0 at *
 have N1 : Hid (∀ km ex px rx wx W,Qm own w0 c 0 km ex px rx wx W → Calls Yd6 20 #[.int .i64 c.shards,.int .i64 c.seed] W fun e w' => ∃ x,e = .returned (Pt x) ∧ Qm own w0 c 1 km x px rx wx w') := Ydy (fun _ _ _ _ _ _ h => (h.one).mono fun _ _ ⟨x,h1,_,h2⟩ => ⟨x,h1,h2⟩)
 have N2 : Hid (∀ km ex px rx wx W,Qm own w0 c 1 km ex px rx wx W → Calls Yd6 9 #[.int .i64 c.cap,.int .i64 c.seed] W fun e w' => ∃ x,e = .returned (Pt x) ∧ Qm own w0 c 2 km ex x rx wx w') := Ydy (fun _ _ _ _ _ _ h => (h.two hc).mono fun _ _ ⟨x,h1,_,h2⟩ => ⟨x,h1,h2⟩)
 have N3 : Hid (∀ km ex px rx wx W,Qm own w0 c 2 km ex px rx wx W → Calls Yd6 21 #[.int .i64 c.stripes,.int .i64 c.ring,.int .i64 c.seed] W fun e w' => ∃ x,e = .returned (Pt x) ∧ Qm own w0 c 3 km ex px x wx w') := Ydy (fun _ _ _ _ _ _ h => (h.three).mono fun _ _ ⟨x,h1,_,h2⟩ => ⟨x,h1,h2⟩)
 have N4 : Hid (∀ km ex px rx wx W,Qm own w0 c 3 km ex px rx wx W → Calls Yd6 22 #[.int .i64 c.writes] W fun e w' => ∃ x,e = .returned (Pt x) ∧ Qm own w0 c 4 km ex px rx x w') := Ydy (fun _ _ _ _ _ _ h => (h.four).mono fun _ _ ⟨x,h1,_,h2⟩ => ⟨x,h1,h2⟩)
 have HS0 : Hid (Qm own w0 c 0 none 0 0 0 0 w0) := Ydy (Qm.start own w0 c (Yd7 No w0))
 have CP : Hid (∀ km ex px rx wx W,Qm own w0 c 4 (some km) ex px rx wx W → Zje own w0 c W.heap.size km ex px rx wx (W.alloc (Zn4 c km ex px rx wx (.pointer none)))) := Ydy (fun _ _ _ _ _ _ h => h.parts)
 have SZ : Hid (∀ W,Zb No w0 W → B < W.heap.size) := Ydy (fun W h => Nat.lt_of_lt_of_le hBl h.size)
 have HWW : Hid (Zb No w w0) := Ydy (by rw [← hw0]; exact (Yd7 No w).alloc _)
 clear hw0 hc
 go_cut [5] (fun v5 wc => ∃ p km ex px rx wx,v5 = Pt p ∧ Zje own w0 c p km ex px rx wx wc)
 case first =>
  refine wp_region_held_drew (S:=fun w' => w'.cell? ⟨B,0,none⟩ = some (.int .i64 c.cap) ∧ w'.cell? ⟨B,1,none⟩ = some (.int .i64 c.seed) ∧ w'.cell? ⟨B,2,none⟩ = some (.int .i64 c.shards) ∧ w'.cell? ⟨B,3,none⟩ = some (.int .i64 c.stripes) ∧ w'.cell? ⟨B,4,none⟩ = some (.int .i64 c.ring) ∧ w'.cell? ⟨B,5,none⟩ = some (.int .i64 c.writes)) (by kernel_rfl) (by go_keep) (fun hS => ?_)
  have HS : Hid (Qm own w0 c 0 none 0 0 0 0 w0.drew) := Ydy (HS0.out.sm ⟨rfl,rfl,rfl,rfl⟩)
  clear HS0 k0 k1 k2 k3 k4 k5
  refine wpAnyH_take (i:=0) (v:=?_) rfl (by kernel_rfl) (by kernel_rfl) (by kernel_rfl) (fun _ _ _ h => h) (Yd5 ⟨by rfl,?_⟩) hS ?_
  rotate_left
  ·(intro w hSw; dsimp only [Yd1,Ydz,Yd0] at hSw ⊢; go_simp; try with_reducible rfl)
  dsimp only [Yd1,Ydz,Yd0]
  simp only [Act.put,Yd2,Yd4,Yd3]
  refine wpAnyH_take (i:=1) (v:=?_) rfl (by kernel_rfl) (by kernel_rfl) (by kernel_rfl) (fun _ _ _ h => h) (Yd5 ⟨by rfl,?_⟩) hS ?_
  rotate_left
  ·(intro w hSw; dsimp only [Yd1,Ydz,Yd0] at hSw ⊢; go_simp; try with_reducible rfl)
  dsimp only [Yd1,Ydz,Yd0]
  simp only [Act.put,Yd2,Yd4,Yd3]
  refine wpAnyH_take (i:=2) (v:=?_) rfl (by kernel_rfl) (by kernel_rfl) (by kernel_rfl) (fun _ _ _ h => h) (Yd5 ⟨by rfl,?_⟩) hS ?_
  rotate_left
  ·(intro w hSw; dsimp only [Yd1,Ydz,Yd0] at hSw ⊢; go_simp; try with_reducible rfl)
  dsimp only [Yd1,Ydz,Yd0]
  simp only [Act.put,Yd2,Yd4,Yd3]
  refine wpAnyH_take (i:=3) (v:=?_) rfl (by kernel_rfl) (by kernel_rfl) (by kernel_rfl) (fun _ _ _ h => h) (Yd5 ⟨by rfl,?_⟩) hS ?_
  rotate_left
  ·(intro w hSw; dsimp only [Yd1,Ydz,Yd0] at hSw ⊢; go_simp; try with_reducible rfl)
  dsimp only [Yd1,Ydz,Yd0]
  simp only [Act.put,Yd2,Yd4,Yd3]
  refine wpAnyH_take (i:=4) (v:=?_) rfl (by kernel_rfl) (by kernel_rfl) (by kernel_rfl) (fun _ _ _ h => h) (Yd5 ⟨by rfl,?_⟩) hS ?_
  rotate_left
  ·(intro w hSw; dsimp only [Yd1,Ydz,Yd0] at hSw ⊢; go_simp; try with_reducible rfl)
  dsimp only [Yd1,Ydz,Yd0]
  simp only [Act.put,Yd2,Yd4,Yd3]
  refine wpAnyH_take (i:=5) (v:=?_) rfl (by kernel_rfl) (by kernel_rfl) (by kernel_rfl) (fun _ _ _ h => h) (Yd5 ⟨by rfl,?_⟩) hS ?_
  rotate_left
  ·(intro w hSw; dsimp only [Yd1,Ydz,Yd0] at hSw ⊢; go_simp; try with_reducible rfl)
  dsimp only [Yd1,Ydz,Yd0]
  simp only [Act.put,Yd2,Yd4,Yd3]
  refine wpAnyH_take (i:=6) (v:=?_) rfl (by kernel_rfl) (by kernel_rfl) (by kernel_rfl) (fun _ _ _ h => h) (Yd5 ⟨by rfl,?_⟩) hS ?_
  rotate_left
  ·(intro w hSw; dsimp only [Yd1,Ydz,Yd0] at hSw ⊢; go_simp; try with_reducible rfl)
  dsimp only [Yd1,Ydz,Yd0]
  simp only [Act.put,Yd2,Yd4,Yd3]
  refine wpAnyH_take (i:=7) (v:=?_) rfl (by kernel_rfl) (by kernel_rfl) (by kernel_rfl) (fun _ _ _ h => h) (Yd5 ⟨by rfl,?_⟩) hS ?_
  rotate_left
  ·(intro w hSw; dsimp only [Yd1,Ydz,Yd0] at hSw ⊢; go_simp; try with_reducible rfl)
  dsimp only [Yd1,Ydz,Yd0]
  simp only [Act.put,Yd2,Yd4,Yd3]
  refine wpAnyH_take (i:=9) (v:=?_) rfl (by kernel_rfl) (by kernel_rfl) (by kernel_rfl) (fun _ _ _ h => h) (Yd5 ⟨by rfl,?_⟩) hS ?_
  rotate_left
  ·(intro w hSw; dsimp only [Yd1,Ydz,Yd0] at hSw ⊢; go_simp; try with_reducible rfl)
  dsimp only [Yd1,Ydz,Yd0]
  simp only [Act.put,Yd2,Yd4,Yd3]
  refine wpAnyH_take (i:=10) (v:=?_) rfl (by kernel_rfl) (by kernel_rfl) (by kernel_rfl) (fun _ _ _ h => h) (Yd5 ⟨by rfl,?_⟩) hS ?_
  rotate_left
  ·(intro w hSw; dsimp only [Yd1,Ydz,Yd0] at hSw ⊢; go_simp; try with_reducible rfl)
  dsimp only [Yd1,Ydz,Yd0]
  simp only [Act.put,Yd2,Yd4,Yd3]
  refine wpAnyH_take (i:=11) (v:=?_) rfl (by kernel_rfl) (by kernel_rfl) (by kernel_rfl) (fun _ _ _ h => h) (Yd5 ⟨by rfl,?_⟩) hS ?_
  rotate_left
  ·(intro w hSw; dsimp only [Yd1,Ydz,Yd0] at hSw ⊢; go_simp; try with_reducible rfl)
  dsimp only [Yd1,Ydz,Yd0]
  simp only [Act.put,Yd2,Yd4,Yd3]
  refine wpAnyH_take (i:=12) (v:=?_) rfl (by kernel_rfl) (by kernel_rfl) (by kernel_rfl) (fun _ _ _ h => h) (Yd5 ⟨by rfl,?_⟩) hS ?_
  rotate_left
  ·(intro w hSw; dsimp only [Yd1,Ydz,Yd0] at hSw ⊢; go_simp; try with_reducible rfl)
  dsimp only [Yd1,Ydz,Yd0]
  simp only [Act.put,Yd2,Yd4,Yd3]
  refine wpAnyH_take (i:=14) (v:=?_) rfl (by kernel_rfl) (by kernel_rfl) (by kernel_rfl) (fun _ _ _ h => h) (Yd5 ⟨by rfl,?_⟩) hS ?_
  rotate_left
  ·(intro w hSw; dsimp only [Yd1,Ydz,Yd0] at hSw ⊢; go_simp; try with_reducible rfl)
  dsimp only [Yd1,Ydz,Yd0]
  simp only [Act.put,Yd2,Yd4,Yd3]
  refine wpAnyH_take (i:=15) (v:=?_) rfl (by kernel_rfl) (by kernel_rfl) (by kernel_rfl) (fun _ _ _ h => h) (Yd5 ⟨by rfl,?_⟩) hS ?_
  rotate_left
  ·(intro w hSw; dsimp only [Yd1,Ydz,Yd0] at hSw ⊢; go_simp; try with_reducible rfl)
  dsimp only [Yd1,Ydz,Yd0]
  simp only [Act.put,Yd2,Yd4,Yd3]
  refine wpAnyH_take (i:=16) (v:=?_) rfl (by kernel_rfl) (by kernel_rfl) (by kernel_rfl) (fun _ _ _ h => h) (Yd5 ⟨by rfl,?_⟩) hS ?_
  rotate_left
  ·(intro w hSw; dsimp only [Yd1,Ydz,Yd0] at hSw ⊢; go_simp; try with_reducible rfl)
  dsimp only [Yd1,Ydz,Yd0]
  simp only [Act.put,Yd2,Yd4,Yd3]
  refine wpAnyH_take (i:=17) (v:=?_) rfl (by kernel_rfl) (by kernel_rfl) (by kernel_rfl) (fun _ _ _ h => h) (Yd5 ⟨by rfl,?_⟩) hS ?_
  rotate_left
  ·(intro w hSw; dsimp only [Yd1,Ydz,Yd0] at hSw ⊢; go_simp; try with_reducible rfl)
  dsimp only [Yd1,Ydz,Yd0]
  simp only [Act.put,Yd2,Yd4,Yd3]
  refine wpAnyH_take (i:=18) (v:=?_) rfl (by kernel_rfl) (by kernel_rfl) (by kernel_rfl) (fun _ _ _ h => h) (Yd5 ⟨by rfl,?_⟩) hS ?_
  rotate_left
  ·(intro w hSw; dsimp only [Yd1,Ydz,Yd0] at hSw ⊢; go_simp; try with_reducible rfl)
  dsimp only [Yd1,Ydz,Yd0]
  simp only [Act.put,Yd2,Yd4,Yd3]
  refine wpAnyH_take (i:=19) (v:=?_) rfl (by kernel_rfl) (by kernel_rfl) (by kernel_rfl) (fun _ _ _ h => h) (Yd5 ⟨by rfl,?_⟩) hS ?_
  rotate_left
  ·(intro w hSw; dsimp only [Yd1,Ydz,Yd0] at hSw ⊢; go_simp; try with_reducible rfl)
  dsimp only [Yd1,Ydz,Yd0]
  simp only [Act.put,Yd2,Yd4,Yd3]
  refine wpAnyH_take (i:=21) (v:=?_) rfl (by kernel_rfl) (by kernel_rfl) (by kernel_rfl) (fun _ _ _ h => h) (Yd5 ⟨by rfl,?_⟩) hS ?_
  rotate_left
  ·(intro w hSw; dsimp only [Yd1,Ydz,Yd0] at hSw ⊢; go_simp; try with_reducible rfl)
  dsimp only [Yd1,Ydz,Yd0]
  simp only [Act.put,Yd2,Yd4,Yd3]
  refine wpAnyH_take (i:=22) (v:=?_) rfl (by kernel_rfl) (by kernel_rfl) (by kernel_rfl) (fun _ _ _ h => h) (Yd5 ⟨by rfl,?_⟩) hS ?_
  rotate_left
  ·(intro w hSw; dsimp only [Yd1,Ydz,Yd0] at hSw ⊢; go_simp; try with_reducible rfl)
  dsimp only [Yd1,Ydz,Yd0]
  simp only [Act.put,Yd2,Yd4,Yd3]
  refine wpAnyH_ready (rs:=[8,24]) (by kernel_rfl) (by simp) ?_
  refine AllReadyH.cons rfl (fun K hK => ?_) (AllReadyH.cons rfl (fun K hK => ?_) AllReadyH.nil)
  ·dsimp only [Yd1,Ydz,Yd0]
   go_simp
   refine (N1.out _ _ _ _ _ _ HS.out).mono ?_
   rintro e w1 ⟨ex,rfl,hs⟩
   clear HS
   have HS := Ydy hs
   clear hs
   try go_simp
   refine hK.out _ _ (by exact CS.out _ HS.out.only) (fun hS2 => ?_)
   clear hK K hS
   have hS := hS2
   clear hS2
   try dsimp only [Yd1,Ydz,Yd0]
   try simp only [Act.put,Yd2,Yd4,Yd3]
   refine wpAnyH_ready (rs:=[13,24]) (by kernel_rfl) (by simp) ?_
   refine AllReadyH.cons rfl (fun K hK => ?_) (AllReadyH.cons rfl (fun K hK => ?_) AllReadyH.nil)
   ·dsimp only [Yd1,Ydz,Yd0]
    go_simp
    refine (N2.out _ _ _ _ _ _ HS.out).mono ?_
    rintro e w2 ⟨px,rfl,hs⟩
    clear HS
    have HS := Ydy hs
    clear hs
    try go_simp
    refine hK.out _ _ (by exact CS.out _ HS.out.only) (fun hS2 => ?_)
    clear hK K hS
    have hS := hS2
    clear hS2
    try dsimp only [Yd1,Ydz,Yd0]
    try simp only [Act.put,Yd2,Yd4,Yd3]
    refine wpAnyH_ready (rs:=[20,24]) (by kernel_rfl) (by simp) ?_
    refine AllReadyH.cons rfl (fun K hK => ?_) (AllReadyH.cons rfl (fun K hK => ?_) AllReadyH.nil)
    ·dsimp only [Yd1,Ydz,Yd0]
     go_simp
     refine (N3.out _ _ _ _ _ _ HS.out).mono ?_
     rintro e w3 ⟨rx,rfl,hs⟩
     clear HS
     have HS := Ydy hs
     clear hs
     try go_simp
     refine hK.out _ _ (by exact CS.out _ HS.out.only) (fun hS2 => ?_)
     clear hK K hS
     have hS := hS2
     clear hS2
     try dsimp only [Yd1,Ydz,Yd0]
     try simp only [Act.put,Yd2,Yd4,Yd3]
     refine wpAnyH_ready (rs:=[23,24]) (by kernel_rfl) (by simp) ?_
     refine AllReadyH.cons rfl (fun K hK => ?_) (AllReadyH.cons rfl (fun K hK => ?_) AllReadyH.nil)
     ·dsimp only [Yd1,Ydz,Yd0]
      go_simp
      refine (N4.out _ _ _ _ _ _ HS.out).mono ?_
      rintro e w4 ⟨wx,rfl,hs⟩
      clear HS
      have HS := Ydy hs
      clear hs
      try go_simp
      refine hK.out _ _ (by exact CS.out _ HS.out.only) (fun hS2 => ?_)
      clear hK K hS
      have hS := hS2
      clear hS2
      try dsimp only [Yd1,Ydz,Yd0]
      try simp only [Act.put,Yd2,Yd4,Yd3]
      refine wpAnyH_ready (rs:=[24]) (by kernel_rfl) (by simp) ?_
      refine AllReadyH.cons rfl (fun K hK => ?_) AllReadyH.nil
      dsimp only [Yd1,Ydz,Yd0]
      go_simp
      have HS2 := Ydy HS.out.made
      clear HS
      have HS := HS2
      clear HS2
      refine hK.out _ _ (by exact CS.out _ HS.out.only) (fun hS2 => ?_)
      clear hK K hS
      have hS := hS2
      clear hS2
      try dsimp only [Yd1,Ydz,Yd0]
      try simp only [Act.put,Yd2,Yd4,Yd3]
      refine wpAnyH_take (i:=25) (v:=?_) rfl (by kernel_rfl) (by kernel_rfl) (by kernel_rfl) (fun _ _ _ h => h) (Yd5 ⟨by rfl,?_⟩) hS ?_
      rotate_left
      ·(intro w hSw; dsimp only [Yd1,Ydz,Yd0] at hSw ⊢; go_simp; try with_reducible rfl)
      dsimp only [Yd1,Ydz,Yd0]
      simp only [Act.put,Yd2,Yd4,Yd3]
      refine wpAnyH_ready (rs:=[26]) (by kernel_rfl) (by simp) ?_
      refine AllReadyH.cons rfl (fun K hK => ?_) AllReadyH.nil
      dsimp only [Yd1,Ydz,Yd0]
      go_simp
      have HP1 := Ydy (CP.out _ _ _ _ _ _ HS.out)
      try rw [show (w4.alloc (.map #[] 0)).heap.size = w4.heap.size + 1 from by simp] at HP1
      have HO1 := Ydy HP1.out.only
      refine hK.out _ _ (by exact CS.out _ HO1.out) (fun hS2 => ?_)
      clear hK K hS
      have hS := hS2
      clear hS2
      try dsimp only [Yd1,Ydz,Yd0]
      try simp only [Act.put,Yd2,Yd4,Yd3]
      refine wpAnyH_take (i:=27) (v:=?_) rfl (by kernel_rfl) (by kernel_rfl) (by kernel_rfl) (fun _ _ _ h => h) (Yd5 ⟨by rfl,?_⟩) hS ?_
      rotate_left
      ·(intro w hSw; dsimp only [Yd1,Ydz,Yd0] at hSw ⊢; go_simp; try with_reducible rfl)
      dsimp only [Yd1,Ydz,Yd0]
      simp only [Act.put,Yd2,Yd4,Yd3]
      refine wpAnyH_done (by kernel_rfl) ?_ _
      go_wp2
      go_meet
      case rel => exact ⟨_,_,_,_,_,_,rfl,HP1.out⟩
     ·dsimp only [Yd1,Ydz,Yd0]
      go_simp
      have HS2 := Ydy HS.out.made
      clear HS
      have HS := HS2
      clear HS2
      refine hK.out _ _ (by exact CS.out _ HS.out.only) (fun hS2 => ?_)
      clear hK K hS
      have hS := hS2
      clear hS2
      try dsimp only [Yd1,Ydz,Yd0]
      try simp only [Act.put,Yd2,Yd4,Yd3]
      refine wpAnyH_ready (rs:=[23]) (by kernel_rfl) (by simp) ?_
      refine AllReadyH.cons rfl (fun K hK => ?_) AllReadyH.nil
      dsimp only [Yd1,Ydz,Yd0]
      go_simp
      refine (N4.out _ _ _ _ _ _ HS.out).mono ?_
      rintro e w4 ⟨wx,rfl,hs⟩
      clear HS
      have HS := Ydy hs
      clear hs
      try go_simp
      refine hK.out _ _ (by exact CS.out _ HS.out.only) (fun hS2 => ?_)
      clear hK K hS
      have hS := hS2
      clear hS2
      try dsimp only [Yd1,Ydz,Yd0]
      try simp only [Act.put,Yd2,Yd4,Yd3]
      refine wpAnyH_take (i:=25) (v:=?_) rfl (by kernel_rfl) (by kernel_rfl) (by kernel_rfl) (fun _ _ _ h => h) (Yd5 ⟨by rfl,?_⟩) hS ?_
      rotate_left
      ·(intro w hSw; dsimp only [Yd1,Ydz,Yd0] at hSw ⊢; go_simp; try with_reducible rfl)
      dsimp only [Yd1,Ydz,Yd0]
      simp only [Act.put,Yd2,Yd4,Yd3]
      refine wpAnyH_ready (rs:=[26]) (by kernel_rfl) (by simp) ?_
      refine AllReadyH.cons rfl (fun K hK => ?_) AllReadyH.nil
      dsimp only [Yd1,Ydz,Yd0]
      go_simp
      have HP1 := Ydy (CP.out _ _ _ _ _ _ HS.out)
      try rw [show (w4.alloc (.map #[] 0)).heap.size = w4.heap.size + 1 from by simp] at HP1
      have HO1 := Ydy HP1.out.only
      refine hK.out _ _ (by exact CS.out _ HO1.out) (fun hS2 => ?_)
      clear hK K hS
      have hS := hS2
      clear hS2
      try dsimp only [Yd1,Ydz,Yd0]
      try simp only [Act.put,Yd2,Yd4,Yd3]
      refine wpAnyH_take (i:=27) (v:=?_) rfl (by kernel_rfl) (by kernel_rfl) (by kernel_rfl) (fun _ _ _ h => h) (Yd5 ⟨by rfl,?_⟩) hS ?_
      rotate_left
      ·(intro w hSw; dsimp only [Yd1,Ydz,Yd0] at hSw ⊢; go_simp; try with_reducible rfl)
      dsimp only [Yd1,Ydz,Yd0]
      simp only [Act.put,Yd2,Yd4,Yd3]
      refine wpAnyH_done (by kernel_rfl) ?_ _
      go_wp2
      go_meet
      case rel => exact ⟨_,_,_,_,_,_,rfl,HP1.out⟩
    ·dsimp only [Yd1,Ydz,Yd0]
     go_simp
     have HS2 := Ydy HS.out.made
     clear HS
     have HS := HS2
     clear HS2
     refine hK.out _ _ (by exact CS.out _ HS.out.only) (fun hS2 => ?_)
     clear hK K hS
     have hS := hS2
     clear hS2
     try dsimp only [Yd1,Ydz,Yd0]
     try simp only [Act.put,Yd2,Yd4,Yd3]
     refine wpAnyH_ready (rs:=[20]) (by kernel_rfl) (by simp) ?_
     refine AllReadyH.cons rfl (fun K hK => ?_) AllReadyH.nil
     dsimp only [Yd1,Ydz,Yd0]
     go_simp
     refine (N3.out _ _ _ _ _ _ HS.out).mono ?_
     rintro e w3 ⟨rx,rfl,hs⟩
     clear HS
     have HS := Ydy hs
     clear hs
     try go_simp
     refine hK.out _ _ (by exact CS.out _ HS.out.only) (fun hS2 => ?_)
     clear hK K hS
     have hS := hS2
     clear hS2
     try dsimp only [Yd1,Ydz,Yd0]
     try simp only [Act.put,Yd2,Yd4,Yd3]
     refine wpAnyH_ready (rs:=[23]) (by kernel_rfl) (by simp) ?_
     refine AllReadyH.cons rfl (fun K hK => ?_) AllReadyH.nil
     dsimp only [Yd1,Ydz,Yd0]
     go_simp
     refine (N4.out _ _ _ _ _ _ HS.out).mono ?_
     rintro e w4 ⟨wx,rfl,hs⟩
     clear HS
     have HS := Ydy hs
     clear hs
     try go_simp
     refine hK.out _ _ (by exact CS.out _ HS.out.only) (fun hS2 => ?_)
     clear hK K hS
     have hS := hS2
     clear hS2
     try dsimp only [Yd1,Ydz,Yd0]
     try simp only [Act.put,Yd2,Yd4,Yd3]
     refine wpAnyH_take (i:=25) (v:=?_) rfl (by kernel_rfl) (by kernel_rfl) (by kernel_rfl) (fun _ _ _ h => h) (Yd5 ⟨by rfl,?_⟩) hS ?_
     rotate_left
     ·(intro w hSw; dsimp only [Yd1,Ydz,Yd0] at hSw ⊢; go_simp; try with_reducible rfl)
     dsimp only [Yd1,Ydz,Yd0]
     simp only [Act.put,Yd2,Yd4,Yd3]
     refine wpAnyH_ready (rs:=[26]) (by kernel_rfl) (by simp) ?_
     refine AllReadyH.cons rfl (fun K hK => ?_) AllReadyH.nil
     dsimp only [Yd1,Ydz,Yd0]
     go_simp
     have HP1 := Ydy (CP.out _ _ _ _ _ _ HS.out)
     try rw [show (w4.alloc (.map #[] 0)).heap.size = w4.heap.size + 1 from by simp] at HP1
     have HO1 := Ydy HP1.out.only
     refine hK.out _ _ (by exact CS.out _ HO1.out) (fun hS2 => ?_)
     clear hK K hS
     have hS := hS2
     clear hS2
     try dsimp only [Yd1,Ydz,Yd0]
     try simp only [Act.put,Yd2,Yd4,Yd3]
     refine wpAnyH_take (i:=27) (v:=?_) rfl (by kernel_rfl) (by kernel_rfl) (by kernel_rfl) (fun _ _ _ h => h) (Yd5 ⟨by rfl,?_⟩) hS ?_
     rotate_left
     ·(intro w hSw; dsimp only [Yd1,Ydz,Yd0] at hSw ⊢; go_simp; try with_reducible rfl)
     dsimp only [Yd1,Ydz,Yd0]
     simp only [Act.put,Yd2,Yd4,Yd3]
     refine wpAnyH_done (by kernel_rfl) ?_ _
     go_wp2
     go_meet
     case rel => exact ⟨_,_,_,_,_,_,rfl,HP1.out⟩
   ·dsimp only [Yd1,Ydz,Yd0]
    go_simp
    have HS2 := Ydy HS.out.made
    clear HS
    have HS := HS2
    clear HS2
    refine hK.out _ _ (by exact CS.out _ HS.out.only) (fun hS2 => ?_)
    clear hK K hS
    have hS := hS2
    clear hS2
    try dsimp only [Yd1,Ydz,Yd0]
    try simp only [Act.put,Yd2,Yd4,Yd3]
    refine wpAnyH_ready (rs:=[13]) (by kernel_rfl) (by simp) ?_
    refine AllReadyH.cons rfl (fun K hK => ?_) AllReadyH.nil
    dsimp only [Yd1,Ydz,Yd0]
    go_simp
    refine (N2.out _ _ _ _ _ _ HS.out).mono ?_
    rintro e w2 ⟨px,rfl,hs⟩
    clear HS
    have HS := Ydy hs
    clear hs
    try go_simp
    refine hK.out _ _ (by exact CS.out _ HS.out.only) (fun hS2 => ?_)
    clear hK K hS
    have hS := hS2
    clear hS2
    try dsimp only [Yd1,Ydz,Yd0]
    try simp only [Act.put,Yd2,Yd4,Yd3]
    refine wpAnyH_ready (rs:=[20]) (by kernel_rfl) (by simp) ?_
    refine AllReadyH.cons rfl (fun K hK => ?_) AllReadyH.nil
    dsimp only [Yd1,Ydz,Yd0]
    go_simp
    refine (N3.out _ _ _ _ _ _ HS.out).mono ?_
    rintro e w3 ⟨rx,rfl,hs⟩
    clear HS
    have HS := Ydy hs
    clear hs
    try go_simp
    refine hK.out _ _ (by exact CS.out _ HS.out.only) (fun hS2 => ?_)
    clear hK K hS
    have hS := hS2
    clear hS2
    try dsimp only [Yd1,Ydz,Yd0]
    try simp only [Act.put,Yd2,Yd4,Yd3]
    refine wpAnyH_ready (rs:=[23]) (by kernel_rfl) (by simp) ?_
    refine AllReadyH.cons rfl (fun K hK => ?_) AllReadyH.nil
    dsimp only [Yd1,Ydz,Yd0]
    go_simp
    refine (N4.out _ _ _ _ _ _ HS.out).mono ?_
    rintro e w4 ⟨wx,rfl,hs⟩
    clear HS
    have HS := Ydy hs
    clear hs
    try go_simp
    refine hK.out _ _ (by exact CS.out _ HS.out.only) (fun hS2 => ?_)
    clear hK K hS
    have hS := hS2
    clear hS2
    try dsimp only [Yd1,Ydz,Yd0]
    try simp only [Act.put,Yd2,Yd4,Yd3]
    refine wpAnyH_take (i:=25) (v:=?_) rfl (by kernel_rfl) (by kernel_rfl) (by kernel_rfl) (fun _ _ _ h => h) (Yd5 ⟨by rfl,?_⟩) hS ?_
    rotate_left
    ·(intro w hSw; dsimp only [Yd1,Ydz,Yd0] at hSw ⊢; go_simp; try with_reducible rfl)
    dsimp only [Yd1,Ydz,Yd0]
    simp only [Act.put,Yd2,Yd4,Yd3]
    refine wpAnyH_ready (rs:=[26]) (by kernel_rfl) (by simp) ?_
    refine AllReadyH.cons rfl (fun K hK => ?_) AllReadyH.nil
    dsimp only [Yd1,Ydz,Yd0]
    go_simp
    have HP1 := Ydy (CP.out _ _ _ _ _ _ HS.out)
    try rw [show (w4.alloc (.map #[] 0)).heap.size = w4.heap.size + 1 from by simp] at HP1
    have HO1 := Ydy HP1.out.only
    refine hK.out _ _ (by exact CS.out _ HO1.out) (fun hS2 => ?_)
    clear hK K hS
    have hS := hS2
    clear hS2
    try dsimp only [Yd1,Ydz,Yd0]
    try simp only [Act.put,Yd2,Yd4,Yd3]
    refine wpAnyH_take (i:=27) (v:=?_) rfl (by kernel_rfl) (by kernel_rfl) (by kernel_rfl) (fun _ _ _ h => h) (Yd5 ⟨by rfl,?_⟩) hS ?_
    rotate_left
    ·(intro w hSw; dsimp only [Yd1,Ydz,Yd0] at hSw ⊢; go_simp; try with_reducible rfl)
    dsimp only [Yd1,Ydz,Yd0]
    simp only [Act.put,Yd2,Yd4,Yd3]
    refine wpAnyH_done (by kernel_rfl) ?_ _
    go_wp2
    go_meet
    case rel => exact ⟨_,_,_,_,_,_,rfl,HP1.out⟩
  ·dsimp only [Yd1,Ydz,Yd0]
   go_simp
   have HS2 := Ydy HS.out.made
   clear HS
   have HS := HS2
   clear HS2
   refine hK.out _ _ (by exact CS.out _ HS.out.only) (fun hS2 => ?_)
   clear hK K hS
   have hS := hS2
   clear hS2
   try dsimp only [Yd1,Ydz,Yd0]
   try simp only [Act.put,Yd2,Yd4,Yd3]
   refine wpAnyH_ready (rs:=[8]) (by kernel_rfl) (by simp) ?_
   refine AllReadyH.cons rfl (fun K hK => ?_) AllReadyH.nil
   dsimp only [Yd1,Ydz,Yd0]
   go_simp
   refine (N1.out _ _ _ _ _ _ HS.out).mono ?_
   rintro e w1 ⟨ex,rfl,hs⟩
   clear HS
   have HS := Ydy hs
   clear hs
   try go_simp
   refine hK.out _ _ (by exact CS.out _ HS.out.only) (fun hS2 => ?_)
   clear hK K hS
   have hS := hS2
   clear hS2
   try dsimp only [Yd1,Ydz,Yd0]
   try simp only [Act.put,Yd2,Yd4,Yd3]
   refine wpAnyH_ready (rs:=[13]) (by kernel_rfl) (by simp) ?_
   refine AllReadyH.cons rfl (fun K hK => ?_) AllReadyH.nil
   dsimp only [Yd1,Ydz,Yd0]
   go_simp
   refine (N2.out _ _ _ _ _ _ HS.out).mono ?_
   rintro e w2 ⟨px,rfl,hs⟩
   clear HS
   have HS := Ydy hs
   clear hs
   try go_simp
   refine hK.out _ _ (by exact CS.out _ HS.out.only) (fun hS2 => ?_)
   clear hK K hS
   have hS := hS2
   clear hS2
   try dsimp only [Yd1,Ydz,Yd0]
   try simp only [Act.put,Yd2,Yd4,Yd3]
   refine wpAnyH_ready (rs:=[20]) (by kernel_rfl) (by simp) ?_
   refine AllReadyH.cons rfl (fun K hK => ?_) AllReadyH.nil
   dsimp only [Yd1,Ydz,Yd0]
   go_simp
   refine (N3.out _ _ _ _ _ _ HS.out).mono ?_
   rintro e w3 ⟨rx,rfl,hs⟩
   clear HS
   have HS := Ydy hs
   clear hs
   try go_simp
   refine hK.out _ _ (by exact CS.out _ HS.out.only) (fun hS2 => ?_)
   clear hK K hS
   have hS := hS2
   clear hS2
   try dsimp only [Yd1,Ydz,Yd0]
   try simp only [Act.put,Yd2,Yd4,Yd3]
   refine wpAnyH_ready (rs:=[23]) (by kernel_rfl) (by simp) ?_
   refine AllReadyH.cons rfl (fun K hK => ?_) AllReadyH.nil
   dsimp only [Yd1,Ydz,Yd0]
   go_simp
   refine (N4.out _ _ _ _ _ _ HS.out).mono ?_
   rintro e w4 ⟨wx,rfl,hs⟩
   clear HS
   have HS := Ydy hs
   clear hs
   try go_simp
   refine hK.out _ _ (by exact CS.out _ HS.out.only) (fun hS2 => ?_)
   clear hK K hS
   have hS := hS2
   clear hS2
   try dsimp only [Yd1,Ydz,Yd0]
   try simp only [Act.put,Yd2,Yd4,Yd3]
   refine wpAnyH_take (i:=25) (v:=?_) rfl (by kernel_rfl) (by kernel_rfl) (by kernel_rfl) (fun _ _ _ h => h) (Yd5 ⟨by rfl,?_⟩) hS ?_
   rotate_left
   ·(intro w hSw; dsimp only [Yd1,Ydz,Yd0] at hSw ⊢; go_simp; try with_reducible rfl)
   dsimp only [Yd1,Ydz,Yd0]
   simp only [Act.put,Yd2,Yd4,Yd3]
   refine wpAnyH_ready (rs:=[26]) (by kernel_rfl) (by simp) ?_
   refine AllReadyH.cons rfl (fun K hK => ?_) AllReadyH.nil
   dsimp only [Yd1,Ydz,Yd0]
   go_simp
   have HP1 := Ydy (CP.out _ _ _ _ _ _ HS.out)
   try rw [show (w4.alloc (.map #[] 0)).heap.size = w4.heap.size + 1 from by simp] at HP1
   have HO1 := Ydy HP1.out.only
   refine hK.out _ _ (by exact CS.out _ HO1.out) (fun hS2 => ?_)
   clear hK K hS
   have hS := hS2
   clear hS2
   try dsimp only [Yd1,Ydz,Yd0]
   try simp only [Act.put,Yd2,Yd4,Yd3]
   refine wpAnyH_take (i:=27) (v:=?_) rfl (by kernel_rfl) (by kernel_rfl) (by kernel_rfl) (fun _ _ _ h => h) (Yd5 ⟨by rfl,?_⟩) hS ?_
   rotate_left
   ·(intro w hSw; dsimp only [Yd1,Ydz,Yd0] at hSw ⊢; go_simp; try with_reducible rfl)
   dsimp only [Yd1,Ydz,Yd0]
   simp only [Act.put,Yd2,Yd4,Yd3]
   refine wpAnyH_done (by kernel_rfl) ?_ _
   go_wp2
   go_meet
   case rel => exact ⟨_,_,_,_,_,_,rfl,HP1.out⟩
 case rest =>
  obtain ⟨p,km,ex,px,rx,wx,rfl,hP⟩ := hcut
  clear N1 N2 N3 N4 CP CS SZ HS0 hmx hmn hmm k0 k1 k2 k3 k4 k5
  have hbp : wc.heap[p]? = some (Zn4 c km ex px rx wx (.pointer none)) := by
   obtain ⟨_,_,_,_,_,_,_,_,_,_,_,_,_,_,_,_,_,h⟩ := hP
   exact h
  have e1 : wc.cell? ⟨p,1,none⟩ = some (Pt ex) := Za hbp rfl
  have CN := Ydy hP.count
  have CC := Ydy hP.cells
  have hN := Zjm c.shards
  have hNE : (((Yt c.shards 1 6).toNat + 1 : Nat) : Int) = ((Yt c.shards 1 6).toNat : Int) + 1 := by omega
  rw [hNE] at CC
  generalize (Yt c.shards 1 6).toNat = NN at *
  clear hP hbp hNE
  go_wp2_with fail
  refine (CN.out).mono ?_
  rintro e w1 ⟨rfl,rfl⟩
  go_wp2_with fail
  refine (CC.out).mono ?_
  rintro e w5 ⟨cx,rfl,hb5,hT⟩
  have HT := Ydy (hT w5 (Sm.refl _))
  have e5 : w5.cell? ⟨p,5,none⟩ = some (.pointer none) := Za hb5 rfl
  have f5 := Zc hb5 5
  clear hb5 hT CC CN hN e1
  go_upto_region 3 with (fail)
  have HM := Ydy (HT.out.machine ps)
  generalize hW6 : w5.setCell ⟨p,5,none⟩ (Pt cx) = w6 at *
  clear hW6 HT e5 f5
  have hmin : (if (64 : Int) < (ps.length : Int) then 64 else (ps.length : Int)) = (ps.length : Int) := if_neg (by omega)
  have HHP : Hid (∀ k v wr,Zdv own w0 c ps p w6.heap.size k v wr → Jh wr a ps ∧ wr.heap[w6.heap.size]? = some (.cells #[Pt p,v] 68 (0,0))) := Ydy (fun k v wr h => by
   obtain ⟨own',L,h1,h2,h3,h4,h5,h6,h7,h8,h9,h10,h11⟩ := h
   exact ⟨HP.out.no ((HWW.out).trans h2),h9⟩)
  have hcut := Ycf a ps.length cp ha
  clear HP HWW ha
  go_wp2
  generalize hx : w6.heap.size = x at *
  generalize hw7 : w6.alloc (.cells #[Pt p,.slice none 0 0] 68) = w7 at *
  clear hw7 hx w6 hBl
  generalize hn : ps.length = n at *
  have HLN := Ydy hn
  clear hn
  go_loopw [56] (fun i wr => ∃ (k : Nat) (v : Value),k ≤ n ∧ i = .int .i64 (k : Int) ∧ Zdv own w0 c ps p x k v wr) (fun i _ => n - (intOf i).toNat)
  case atStart => exact ⟨0,_,Yd8 _,rfl,HM.out⟩
  case round =>
   obtain ⟨k,v,hk,rfl,hG⟩ := hrel
   by_cases hlt : k < n
   ·have hkb : decide ((k : Int) < (n : Int)) = true := decide_eq_true (by omega)
    have hk0 : (0 : Int) ≤ (k : Int) := by omega
    have hk1 : (k : Int) < (n : Int) := by omega
    have hkl : k < ps.length := by have := HLN.out; omega
    obtain ⟨l,hl⟩ : ∃ l,ps[k]? = some l := ⟨_,List.getElem?_eq_getElem hkl⟩
    obtain ⟨hPA,hxb⟩ := HHP.out k v wr hG
    obtain ⟨ad,v2,hae,hcell,hPV⟩ := hPA k l hl
    subst hae
    have hln : l.length ≤ 1000 := HL.out l (List.mem_of_getElem? hl)
    have CPY : Hid (Calls Yd6 25 #[v2] wr fun e w' => ∃ u,e = .returned u ∧ Zmr own w0 c ps p x k v u l w') := Ydy (hG.copy hPV.src hln)
    have HTH : Hid (∀ u W,Zmr own w0 c ps p x k v u l W → Zw6 own w0 c ps p x k v W.heap.size (W.alloc (Zsh p k u)) ∧ W.heap[x]? = some (.cells #[Pt p,v] 68 (0,0))) := Ydy (fun u W h => ⟨h.thread hl (by omega),by
     obtain ⟨own',L,h1,h2,h3,h4,h5,h6,h7,h8,h9,h10,h11,h12⟩ := h
     exact h9⟩)
    obtain ⟨a2,c2,rfl,hc2⟩ := hPV.form
    have hcut2 := Ycg a2 l.length c2 hc2
    have hmin2 : (if (1024 : Int) < (l.length : Int) then 1024 else (l.length : Int)) = (l.length : Int) := if_neg (by omega)
    clear hG hPA hPV hl hkl hxb
    generalize l.length = ln at *
    go_wp2_with fail
    refine (CPY.out).mono ?_
    rintro e w2 ⟨u,rfl,hu⟩
    obtain ⟨ua,un,uc,rfl⟩ := hu.slice
    obtain ⟨hv3,hx2⟩ := HTH.out _ w2 hu
    have e1 : w2.cell? ⟨x,1,none⟩ = some v := Za hx2 rfl
    obtain ⟨own',xs,hR,hN⟩ := hv3.row
    have HR := Ydy hR
    have HN := Ydy hN
    have hxl := Ze hx2
    have hne := Yd9 hxl
    unfold Zsh at HR HN
    clear CPY HTH hu hv3 hR hN hx2 hcut2 hmin2 hcell
    have HNN : Hid (∀ o1 o2,((w2.alloc o1).alloc o2).heap[w2.heap.size + 1]? = some o2) := Ydy (fun o1 o2 => by have := Zh (w2.alloc o1) o2; rwa [show (w2.alloc o1).heap.size = w2.heap.size + 1 from by simp] at this)
    go_wp2_with (at_builtin; refine Xx (by rfl) _ _ _ (by rfl) Zt6 (by rfl) (HR.out _ ((Yd7 No _).alloc _)) (B:=w2.heap.size + 1) (c:=1) (cs:=#[Pt w2.heap.size]) (tb:=70) (fr:=(0,0)) (by rfl) (HNN.out _ _) (by rfl) (by simp [Value.oneCell']) (by omega) ?_; intro g4 cap4 w4 r4 hg4 hor hsz; obtain ⟨z1,z2⟩ := HN.out _ _ _ _ ((Yd7 No _).alloc _) r4 hg4 hor; have e4 : w4.cell? ⟨x,1,none⟩ = some v := Za z1 rfl; have f4 := Zc z1 1; have Z2 := Ydy (z2 w4 (Sm.refl _)); clear r4 hg4 hor hsz z1 z2)
    go_roundw
    case rel => exact ⟨k + 1,_,by omega,by go_num,Z2.out⟩
    case measure => simp [intOf]; omega
   ·have hkn : k = n := by omega
    subst hkn
    have HG := Ydy (HOW.out _ _ _ _ hG)
    clear hG
    go_wp2
    go_ret
    exact ⟨x,p,v,rfl,by rw [HLN.out]; exact HG.out⟩
theorem Zdv.run (h : Zdv own w c ps p x ps.length v W) (hc : c.cap ≤ 512) (hps : ps.length ≤ 64) (o19 : own 0 = 19) (he : Err.ErrType w) : ∃ own' L,Qr (Ji ps) (Zg1 ps) (14 * Ji ps) ps own' W x v L (Xh c ps) 0 ∧ Ext w own own' ∧ Zb No w W := by
 obtain ⟨own',L,h1,h2,h3,h4,h5,h6,h7,h8,h9,h10,h11⟩ := h
 rw [List.take_length] at h3
 have h00 : 0 < w.heap.size := World.block_lt_of_cell? w _ he
 have hl : (Xh c ps).ths.length = ps.length := Zpj c ps
 exact ⟨own',L,⟨h3,Zpi hc hps,Zu7,by rw [h5]; exact Yd8 _,by rw [h6]; exact Yd8 _,Zd he h2 (fun h => h),(h1 0 h00).trans o19,h7,by rw [h4]; exact h9,by rw [hl]; exact h10⟩,h1,h2⟩
def Zmq (w : World) (a : Option Addr) (n : Nat) (G : Nat → Nat) : Prop := ∀ k,k < n → ∃ ad a2 c2,a = some ad ∧ w.cell? (ad.add k) = some (.slice a2 (G k) c2)
def K8 (G : Nat → Nat) : Nat → Nat
 | 0 => 0
 | n + 1 => K8 G n + G n
theorem Zy6 (G : Nat → Nat) (n : Nat) (h : ∀ k,k < n → G k ≤ 140737488351232) : K8 G n ≤ n * 140737488351232 := by
 induction n with
 | zero => exact Yd8 _
 | succ n ih =>
  have h1 := ih (fun k hk => h k (by omega))
  have h2 := h n (by omega)
  show K8 G n + G n ≤ _
  rw [Nat.add_mul]
  omega
theorem Zxt {n cp : Nat} {G : Nat → Nat} (c : Cfg) (hn : n ≤ 140737488351232) (hG : ∀ k,k < n → G k ≤ 140737488351232) (hl : Zmq w a n G) :
  Calls Yd6 5 #[Zb5 c,.slice a n cp] w fun e w' => e = .returned (.bool (decide (n ≤ 6) && decide (K8 G (if n < 100 then n else 100) ≤ 60) && decide (c.cap ≤ 512))) ∧ w' = w.alloc (J2 c) := by
 have HL : Hid (Zmq (w.alloc (J2 c)) a n G) := Ydy (fun k hk => by
  obtain ⟨ad,a2,c2,h1,h2⟩ := hl k hk
  exact ⟨ad,a2,c2,h1,Zd h2 ((Yd7 No w).alloc _) (fun h => h)⟩)
 have HG := Ydy hG
 have c0 : (w.alloc (J2 c)).cell? ⟨w.heap.size,0,none⟩ = some (.int .i64 c.cap) := Za (Zh w (J2 c)) rfl
 clear hl hG
 unfold Zb5
 have E : J2 c = .cells #[.int .i64 c.cap,.int .i64 c.seed,.int .i64 c.shards,.int .i64 c.stripes,.int .i64 c.ring,.int .i64 c.writes] 23 := rfl
 rw [E] at HL c0
 generalize hm : (if n < 100 then n else 100) = m at *
 have hm1 : m ≤ n ∧ m ≤ 100 := by rw [← hm]; split <;> omega
 have hm2 : ∀ k,k < n → k < 100 → k < m := fun k h1 h2 => by rw [← hm]; split <;> omega
 have hm3 : ∀ k,¬ (k < n ∧ k < 100) → k ≤ m → k = m := fun k h1 h2 => by rw [← hm] at h2 ⊢; split at h2 <;> split <;> omega
 clear hm
 go_enter Tryz.func5,Tryz.ntmps5
 go_wp2
 generalize hw1 : w.alloc (.cells #[.int .i64 c.cap,.int .i64 c.seed,.int .i64 c.shards,.int .i64 c.stripes,.int .i64 c.ring,.int .i64 c.writes] 23) = w1 at *
 have HW1 := Ydy hw1
 clear hw1 E
 go_loopw [5,6] (fun s i wr => ∃ k : Nat,k ≤ m ∧ i = .int .i64 (k : Int) ∧ s = .int .i64 (K8 G k : Int) ∧ wr = w1) (fun _ i _ => m - (intOf i).toNat)
 case atStart => exact ⟨0,Yd8 _,rfl,rfl,rfl⟩
 case round =>
  obtain ⟨k,hk,rfl,rfl,rfl⟩ := hrel
  by_cases hlt : k < n ∧ k < 100
  ·have hkm := hm2 k hlt.1 hlt.2
   have d1 : decide ((k : Int) < (n : Int)) = true := decide_eq_true (by omega)
   have d2 : decide ((k : Int) < 100) = true := decide_eq_true (by omega)
   have hk0 : (0 : Int) ≤ (k : Int) := by omega
   have hk1 : (k : Int) < (n : Int) := by omega
   obtain ⟨ad,a2,c2,rfl,hcell⟩ := HL.out k hlt.1
   have hb1 := Zy6 G k (fun j hj => HG.out j (by omega))
   have hb2 := HG.out k hlt.1
   have hb3 : K8 G k ≤ 100 * 140737488351232 := Nat.le_trans hb1 (Nat.mul_le_mul_right _ (by omega))
   have hw : IntKind.i64.wrap ((K8 G k : Int) + (G k : Int)) = (K8 G k : Int) + (G k : Int) := IntWalk.i64_in _ (by omega)
   clear hb1 hb2 hb3 hm2 hm3 hlt
   go_wp2
   go_roundw
   case rel => exact ⟨k + 1,by omega,by go_num,by show Value.int .i64 _ = Value.int .i64 ((K8 G k + G k : Nat) : Int); congr 1,by first | rfl | trivial⟩
   case measure => simp [intOf]; omega
  ·have hke := hm3 k hlt hk
   subst hke
   have key : ∀ b3 : Bool,b3 = (decide (n ≤ 6) && decide (K8 G k ≤ 60) && decide (c.cap ≤ 512)) → Ending.returned (.bool b3) = .returned (.bool (decide (n ≤ 6) && decide (K8 G k ≤ 60) && decide (c.cap ≤ 512))) := fun b3 h => by rw [h]
   have KEY := Ydy key
   clear key hm2 hm3
   have dd : n = k ∨ (k = 100 ∧ 100 < n) := by omega
   rcases dd with hnk | ⟨rfl,hgt⟩
   ·subst hnk
    clear hlt hk hm1
    by_cases h6 : n ≤ 6
    ·have e6 : decide ((n : Int) ≤ 6) = true := decide_eq_true (by omega)
     by_cases h60 : K8 G n ≤ 60
     ·have e60 : decide ((K8 G n : Int) ≤ 60) = true := decide_eq_true (by omega)
      have KF : Hid ((decide (n ≤ 6) && decide (K8 G n ≤ 60) && decide (c.cap ≤ 512)) = decide (c.cap ≤ 512)) := Ydy (by rw [decide_eq_true h6,decide_eq_true h60]; rfl)
      clear h6 h60
      go_wp2
      go_ret
      exact ⟨KEY.out _ KF.out.symm,HW1.out.symm⟩
     ·have e60 : decide ((K8 G n : Int) ≤ 60) = false := decide_eq_false (by omega)
      have KF : Hid ((decide (n ≤ 6) && decide (K8 G n ≤ 60) && decide (c.cap ≤ 512)) = false) := Ydy (by rw [decide_eq_false h60]; cases decide (n ≤ 6) <;> rfl)
      clear h6 h60
      go_wp2
      go_ret
      exact ⟨KEY.out _ KF.out.symm,HW1.out.symm⟩
    ·have e6 : decide ((n : Int) ≤ 6) = false := decide_eq_false (by omega)
     have KF : Hid ((decide (n ≤ 6) && decide (K8 G n ≤ 60) && decide (c.cap ≤ 512)) = false) := Ydy (by rw [decide_eq_false h6]; rfl)
     clear h6
     go_wp2
     go_ret
     exact ⟨KEY.out _ KF.out.symm,HW1.out.symm⟩
   ·have hgi : (100 : Int) < (n : Int) := by omega
    have d1 : decide ((100 : Int) < (n : Int)) = true := decide_eq_true hgi
    clear hlt hk hm1
    by_cases h6 : n ≤ 6
    ·have e6 : decide ((n : Int) ≤ 6) = true := decide_eq_true (by omega)
     by_cases h60 : K8 G 100 ≤ 60
     ·have e60 : decide ((K8 G 100 : Int) ≤ 60) = true := decide_eq_true (by omega)
      have KF : Hid ((decide (n ≤ 6) && decide (K8 G 100 ≤ 60) && decide (c.cap ≤ 512)) = decide (c.cap ≤ 512)) := Ydy (by rw [decide_eq_true h6,decide_eq_true h60]; rfl)
      clear h6 h60
      go_wp2
      go_ret
      exact ⟨KEY.out _ KF.out.symm,HW1.out.symm⟩
     ·have e60 : decide ((K8 G 100 : Int) ≤ 60) = false := decide_eq_false (by omega)
      have KF : Hid ((decide (n ≤ 6) && decide (K8 G 100 ≤ 60) && decide (c.cap ≤ 512)) = false) := Ydy (by rw [decide_eq_false h60]; cases decide (n ≤ 6) <;> rfl)
      clear h6 h60
      go_wp2
      go_ret
      exact ⟨KEY.out _ KF.out.symm,HW1.out.symm⟩
    ·have e6 : decide ((n : Int) ≤ 6) = false := decide_eq_false (by omega)
     have KF : Hid ((decide (n ≤ 6) && decide (K8 G 100 ≤ 60) && decide (c.cap ≤ 512)) = false) := Ydy (by rw [decide_eq_false h6]; rfl)
     clear h6
     go_wp2
     go_ret
     exact ⟨KEY.out _ KF.out.symm,HW1.out.symm⟩
def V3 (r : Rec) : Value := .agg #[.int .i64 r.t,.int .i64 r.o,.int .i64 r.a,.int .i64 r.c.d,.int .i64 r.c.k,.int .i64 r.c.v,.bool r.c.h,.int .i64 r.e]
def Kk (r : Rec) : Obj := .cells #[.int .i64 r.t,.int .i64 r.o,.int .i64 r.a,.int .i64 r.c.d,.int .i64 r.c.k,.int .i64 r.c.v,.bool r.c.h,.int .i64 r.e] 98
def Zcf (p : Rec × Nat) : Value := .agg #[.int .i64 p.1.t,.int .i64 p.1.o,.int .i64 p.1.a,.int .i64 p.1.c.d,.int .i64 p.1.c.k,.int .i64 p.1.c.v,.bool p.1.c.h,.int .i64 p.1.e,.int .i64 (p.2 : Int)]
def Ycx : Rec := ⟨0,0,0,⟨0,0,0,false⟩,0⟩
def Zbt (c : Qq) : List Value := [.int .i64 c.t,.int .i64 c.o,.int .i64 c.f,.int .i64 c.a,.int .i64 c.r]
def Yc (l : List Qq) : List Value := l.flatMap Zbt
def rf (l : List (Int × (Rec × Nat))) : Int → Option Value := fun i => (Zk l i).map Zcf
theorem Zp4 (w : World) : (zeroValue 299).run Yd6 w = .ok (Zcf (Ycx,0)) w := by kernel_rfl
def Yb0 (own : Nat → Nat) (w : World) (b mb kk n : Nat) (xs : List Value) (f : Int → Option Value) (r : Rec) (pl : Int) (w' : World) : Prop := ∃ own' v',Ext w own own' ∧ w'.heap[b]? = some (.cells #[.map (some mb),v'] 217 (0,0)) ∧ Zs w' mb (upd f r.t (some (Zcf (r,kk)))) (if (f r.t).isSome then n else n + 1) ∧ Row own' 16 w' 105 5 v' (kk + 1) (xs ++ Zbt ⟨r.t,r.o,pl,-1,-1⟩) ∧ Zb (fun b' => b' = b ∨ b' = mb ∨ own b' = 16) w w'
theorem Znc (r : Rec) (he : Zf0 r = true) (w : World) : Calls Yd6 164 #[V3 r] w fun e w' => e = .returned (.bool true) ∧ Zb No w w' := by
 obtain ⟨t,o,a,⟨d,k,v,hh⟩,er⟩ := r
 unfold Zf0 at he
 simp only [decide_eq_true_eq] at he
 obtain ⟨rfl,rfl,rfl,rfl⟩ := he
 unfold V3
 simp only
 go_enter Tryz.func164,Tryz.ntmps164
 go_wp2
 go_ret
 exact ⟨rfl,(Yd7 No w).alloc _⟩
theorem Zld {b mb kk n : Nat} {xs : List Value} {f : Int → Option Value} (r : Rec) (pl : Int) (p : Rec × Nat) (was : Bool) (hb : w.heap[b]? = some (.cells #[.map (some mb),v] 217 (0,0))) (hvl : ∃ a c,v = .slice a kk c) (hm : Hid (Zs w mb f n)) (hrow : Row own 16 w 105 5 v kk xs) (ob : own b = 14) (om : own mb = 15) (hkn : kk ≤ 1000000) (hmn : n < 1000000) (hI : I64 r.t) (he : r.e = 0) (hc : (was = false ∧ r.o = 0) ∨ (was = true ∧ p.1.a = 3 ∧ r.o = p.1.o + 1 ∧ I64 r.o))
  (L : Hid (∀ W,Zb No w W → (Instr.lookup 215 (.map (some mb)) (.int .i64 r.t) true).run Yd6 W = .ok (.tuple #[Zcf p,.bool was]) W)) :
  Calls Yd6 165 #[Pt b,V3 r,.int .i64 pl] w fun e w' => e = .returned (.bool true) ∧ Yb0 own w b mb kk n xs f r pl w' := by
 obtain ⟨va,vc,rfl⟩ := hvl
 obtain ⟨t,o,a,⟨d,k,v1,hh⟩,er⟩ := r
 simp only at he
 subst he
 obtain ⟨⟨pt,po,pa,⟨pd,pk,pv,ph⟩,pe⟩,pn⟩ := p
 simp only at *
 unfold Zcf at L
 unfold V3
 simp only at L ⊢
 have c0 : w.cell? ⟨b,0,none⟩ = some (.map (some mb)) := Za hb rfl
 have hbl := Ze hb
 have HB := Ydy hb
 clear hb
 go_enter Tryz.func165,Tryz.ntmps165
 go_wp2
 have hbx : b ≠ w.heap.size := Yd9 hbl
 have hbx2 := Ne.symm hbx
 have hb1 : b ≠ w.heap.size + 1 := by omega
 have hb2 := Ne.symm hb1
 have L1 := L.out (w.alloc (.cells #[.int .i64 t,.int .i64 o,.int .i64 a,.int .i64 d,.int .i64 k,.int .i64 v1,.bool hh,.int .i64 0] 98)).drew (((Yd7 No w).alloc _).drew)
 have L2 := fun o2 => L.out ((w.alloc (.cells #[.int .i64 t,.int .i64 o,.int .i64 a,.int .i64 d,.int .i64 k,.int .i64 v1,.bool hh,.int .i64 0] 98)).alloc o2).drew ((((Yd7 No w).alloc _).alloc _).drew)
 go_region_held3 (fun w' => w'.cell? ⟨b,0,none⟩ = some (.map (some mb)) ∧ w'.cell? ⟨w.heap.size,0,none⟩ = some (.int .i64 t)) (go_keep) (fail)
 all_goals
  have hO : Hid (Zb No w ((w.alloc (.cells #[.int .i64 t,.int .i64 o,.int .i64 a,.int .i64 d,.int .i64 k,.int .i64 v1,.bool hh,.int .i64 0] 98)).alloc (.cells #[.int .i64 pt,.int .i64 po,.int .i64 pa,.int .i64 pd,.int .i64 pk,.int .i64 pv,.bool ph,.int .i64 pe,.int .i64 (pn : Int)] 299)).drew) := Ydy ((((Yd7 No w).alloc _).alloc _).drew)
  have hq0 : Hid ((((w.alloc (.cells #[.int .i64 t,.int .i64 o,.int .i64 a,.int .i64 d,.int .i64 k,.int .i64 v1,.bool hh,.int .i64 0] 98)).alloc (.cells #[.int .i64 pt,.int .i64 po,.int .i64 pa,.int .i64 pd,.int .i64 pk,.int .i64 pv,.bool ph,.int .i64 pe,.int .i64 (pn : Int)] 299)).drew).heap[w.heap.size]? = some (.cells #[.int .i64 t,.int .i64 o,.int .i64 a,.int .i64 d,.int .i64 k,.int .i64 v1,.bool hh,.int .i64 0] 98)) := Ydy (Zbv w _ _)
  have hq1 : Hid ((((w.alloc (.cells #[.int .i64 t,.int .i64 o,.int .i64 a,.int .i64 d,.int .i64 k,.int .i64 v1,.bool hh,.int .i64 0] 98)).alloc (.cells #[.int .i64 pt,.int .i64 po,.int .i64 pa,.int .i64 pd,.int .i64 pk,.int .i64 pv,.bool ph,.int .i64 pe,.int .i64 (pn : Int)] 299)).drew).heap[w.heap.size + 1]? = some (.cells #[.int .i64 pt,.int .i64 po,.int .i64 pa,.int .i64 pd,.int .i64 pk,.int .i64 pv,.bool ph,.int .i64 pe,.int .i64 (pn : Int)] 299)) := Ydy (Kj w _ _)
  clear L L1 L2 hb1 hb2 c0
  revert hO hq0 hq1
  generalize ((w.alloc (.cells #[.int .i64 t,.int .i64 o,.int .i64 a,.int .i64 d,.int .i64 k,.int .i64 v1,.bool hh,.int .i64 0] 98)).alloc (.cells #[.int .i64 pt,.int .i64 po,.int .i64 pa,.int .i64 pd,.int .i64 pk,.int .i64 pv,.bool ph,.int .i64 pe,.int .i64 (pn : Int)] 299)).drew = wb
  intro hO hq0 hq1
  have hbb := hO.out.kept HB.out (fun h => h)
  have c0 := Za (j:=0) hbb rfl
  have c1 := Za (j:=1) hbb rfl
  have u0 := Za (j:=0) hq0.out rfl
  have u1 := Za (j:=1) hq0.out rfl
  have u2 := Za (j:=2) hq0.out rfl
  have u3 := Za (j:=3) hq0.out rfl
  have u4 := Za (j:=4) hq0.out rfl
  have u5 := Za (j:=5) hq0.out rfl
  have u6 := Za (j:=6) hq0.out rfl
  have u7 := Za (j:=7) hq0.out rfl
  have x0 := Za (j:=0) hq1.out rfl
  have x1 := Za (j:=1) hq1.out rfl
  have x2 := Za (j:=2) hq1.out rfl
  have x3 := Za (j:=3) hq1.out rfl
  have x4 := Za (j:=4) hq1.out rfl
  have x5 := Za (j:=5) hq1.out rfl
  have x6 := Za (j:=6) hq1.out rfl
  have x7 := Za (j:=7) hq1.out rfl
  have x8 := Za (j:=8) hq1.out rfl
  clear hbb
  rcases hc with ⟨rfl,ho⟩ | ⟨rfl,h3,ho,hIo⟩
  have d0 : (o == 0) = true := by simpa using ho
  clear ho
  rotate_left
  have hwr : wrap64 (po + 1) = po + 1 := IntWalk.wrap64_in (po + 1) (by rw [ho] at hIo; exact hIo)
  have d1 : (pa == 3) = true := by simpa using h3
  have d1' : (pa != 3) = false := by simp [h3]
  have d2 : (o == po + 1) = true := by simpa using ho
  have d2' : (o != po + 1) = false := by simp [ho]
  clear ho h3 hIo
  all_goals
   go_wp2
   refine Z4 13 (by kernel_rfl) (by kernel_rfl) ?_
   intro W hcW hfW hsW HW
   have hsm : Sm wb W := by rw [← HW.out]; exact ⟨rfl,rfl,rfl,rfl⟩
   have HM := Ydy (hsm.map (hm.out.kept hO.out (fun h => h)))
   have u0' := (hcW _).trans u0
   have u1' := (hcW _).trans u1
   have u2' := (hcW _).trans u2
   have u3' := (hcW _).trans u3
   have u4' := (hcW _).trans u4
   have u5' := (hcW _).trans u5
   have u6' := (hcW _).trans u6
   have u7' := (hcW _).trans u7
   have c0' := (hcW _).trans c0
   have c1' := (hcW _).trans c1
   clear hcW hfW hsW c0 c1 u0 u1 u2 u3 u4 u5 u6 u7 x0 x1 x2 x3 x4 x5 x6 x7 x8
   have HSM := Ydy hsm
   clear hsm HW
   simp only [List.take_succ_cons,List.take_zero,List.drop_succ_cons,List.drop_zero]
   iterate 13 still_step
   refine wpStill_nil ?_
   go_wp2_with (refine Y0 (by rfl) (t:=215) (by rfl) (e:=299) Tryz.underlying215 (b:=mb) (by rfl) HM.out hmn (k:=t) (val:=.agg #[.int .i64 t,.int .i64 o,.int .i64 a,.int .i64 d,.int .i64 k,.int .i64 v1,.bool hh,.int .i64 0,.int .i64 (kk : Int)]) (by rfl) (by rfl) hI ?_; intro w5 hm5 ht5; have HM5 := Ydy hm5; have HT5 := Ydy ht5; clear hm5 ht5)
   have hO5 := Ydy (HSM.out)
   have h14 : b ≠ mb := fun e => by rw [e] at ob; omega
   have hn0 : w.heap.size < wb.heap.size := Ze hq0.out
   have HB5 := Ydy ((Yq HT5.out h14).trans (HSM.out.block (hO.out.kept HB.out (fun h => h))))
   have HN5 := Ydy ((Yq HT5.out (by have := hm.out.lt; omega : w.heap.size ≠ mb)).trans (HSM.out.block hq0.out))
   have hOn : Zb (fun k => k = mb) w w5 := ((hO.out.trans HSM.out.only).no).trans ((Yd7 (fun k => k = mb) _).turned HT5.out (.inl rfl))
   have HOn := Ydy hOn
   have HRW : Hid (∀ o2,Row own 16 ((w5.drew).alloc o2) 105 5 (.slice va kk vc) kk xs) := Ydy fun o2 => hrow.kept (Ext.refl _ _) (((HOn.out).drew).alloc o2) (fun k _ hk e => by have e' : k = mb := e; rw [e'] at hk; omega)
   have hvb : ∀ g,(Value.slice va kk vc).ownBlock = some g → own g = 16 ∧ g < w.heap.size := fun g hg => ⟨hrow.2 g hg,hrow.lt hg⟩
   have HVB := Ydy hvb
   have hnb : w.heap.size ≠ b := hbx2
   have hnb2 : b ≠ w.heap.size := hbx
   have HF : Hid (∀ g cap w6,Row (ext own (w5.heap.size + 1) 16) 16 w6 105 5 (.slice (some ⟨g,0,none⟩) (kk + 1) cap) (kk + 1) (xs ++ [.int .i64 t,.int .i64 o,.int .i64 pl,.int .i64 (-1),.int .i64 (-1)]) → w6.heap[b]? = some (.cells #[.map (some mb),.slice va kk vc] 217 (0,0)) → Zb (fun k => k = mb ∨ own k = 16) w w6 → Zs w6 mb (upd f t (some (.agg #[.int .i64 t,.int .i64 o,.int .i64 a,.int .i64 d,.int .i64 k,.int .i64 v1,.bool hh,.int .i64 0,.int .i64 (kk : Int)]))) (if (f t).isSome then n else n + 1) → Yb0 own w b mb kk n xs f ⟨t,o,a,⟨d,k,v1,hh⟩,0⟩ pl (w6.setCell ⟨b,1,none⟩ (.slice (some ⟨g,0,none⟩) (kk + 1) cap))) := Ydy (fun g cap w6 h1 h2 h3 h4 => by
    have hsz := HOn.out.size
    have ho : Zb (fun k => k = b) w6 (w6.setCell ⟨b,1,none⟩ (.slice (some ⟨g,0,none⟩) (kk + 1) cap)) := (Yd7 (fun k => k = b) w6).setCell (.inl rfl) _
    refine ⟨ext own (w5.heap.size + 1) 16,_,fun k hk => Zz (by omega),Zj h2 1 _,h4.kept ho (fun e => h14 e.symm),h1.kept (Ext.refl _ _) ho (fun k _ hk e => ?_),(h3.mono (fun k _ e => .inr e)).then ho (fun k _ e => .inl e)⟩
    have e' : k = b := e
    rw [e',Zz (by omega)] at hk
    omega)
   have HQ : Hid (∀ o2 w6,((w5.drew).alloc o2).grownBy w6 (Value.slice va kk vc).ownBlock → w6.heap[b]? = some (.cells #[.map (some mb),.slice va kk vc] 217 (0,0))) := Ydy fun o2 w6 hg => (hg.block b (by have := Ze HB5.out; simp; omega) (fun e => by have := HVB.out b e.symm; omega)).trans (Zm (w:=w5.drew) HB5.out)
   have HX : Hid (∀ o2 w6,((w5.drew).alloc o2).grownBy w6 (Value.slice va kk vc).ownBlock → w6.heap[w.heap.size]? = some (.cells #[.int .i64 t,.int .i64 o,.int .i64 a,.int .i64 d,.int .i64 k,.int .i64 v1,.bool hh,.int .i64 0] 98)) := Ydy fun o2 w6 hg => (hg.block w.heap.size (by have := Ze HN5.out; simp; omega) (fun e => by have := (HVB.out _ e.symm).2; omega)).trans (Zm (w:=w5.drew) HN5.out)
   have HO6 : Hid (∀ o2 w6,((w5.drew).alloc o2).grownBy w6 (Value.slice va kk vc).ownBlock → Zb (fun k => k = mb ∨ own k = 16) w w6 ∧ Zs w6 mb (upd f t (some (.agg #[.int .i64 t,.int .i64 o,.int .i64 a,.int .i64 d,.int .i64 k,.int .i64 v1,.bool hh,.int .i64 0,.int .i64 (kk : Int)]))) (if (f t).isSome then n else n + 1)) := Ydy fun o2 w6 hg => by
    have hOg : Zb (fun k => (Value.slice va kk vc).ownBlock = some k) ((w5.drew).alloc o2) w6 := ⟨hg.os,hg.tape,hg.output,hg.size,fun k hk hn => hg.block k hk (fun e => hn e.symm)⟩
    have hOa : Zb No w5 ((w5.drew).alloc o2) := ((Yd7 No w5).drew).alloc _
    exact ⟨((HOn.out.trans (Zb.no hOa)).mono (fun k _ e => .inl e)).then hOg (fun k _ e => .inr (HVB.out k e).1),(HM5.out.kept hOa (fun h => h)).kept hOg (fun e => by have := (HVB.out _ e).1; omega)⟩
   have hn5 : w.heap.size ≠ w5.heap.size := Yd9 (Ze HN5.out)
   have hn6 := Ne.symm hn5
   have hb5 : b ≠ w5.heap.size := Yd9 (Ze HB5.out)
   have hb6 := Ne.symm hb5
   have hb7 : b < w5.heap.size := Ze HB5.out
   have hn7 : w.heap.size < w5.heap.size := Ze HN5.out
   have y0 := Za (j:=0) HN5.out rfl
   have y1 := Za (j:=1) HN5.out rfl
   have z1 := Za (j:=1) HB5.out rfl
   clear hvb hOn HM5 HT5 hO5 HM HSM u0' u1' u2' u3' u4' u5' u6' u7' c0' c1' hm hq0 hq1 hO hrow HVB HOn HB5 HN5 hn0 h14 hbx hbx2 hbl ob om hmn HB
   revert HF HQ HX HO6 HRW y0 y1 hnb hnb2 hn5 hn6 hn7
   generalize w.heap.size = n0
   intro HRW hnb hnb2 HF HQ HX HO6 hn5 hn6 hn7 y0 y1
   refine wp_region_held_drew (S:=fun w' => w'.cell? ⟨n0,0,none⟩ = some (.int .i64 t) ∧ w'.cell? ⟨n0,1,none⟩ = some (.int .i64 o)) (by kernel_rfl) (by go_keep) (fun hS => ?_)
   refine wpAnyH_take (i:=0) (v:=?_) rfl (by kernel_rfl) (by kernel_rfl) (by kernel_rfl) (fun _ _ _ h => h) (Yd5 ⟨by rfl,?_⟩) hS ?_
   rotate_left
   ·(intro w hSw; dsimp only [Yd1,Ydz,Yd0] at hSw ⊢; go_simp; try with_reducible rfl)
   dsimp only [Yd1,Ydz,Yd0]
   simp only [Act.put,Yd2,Yd4,Yd3]
   refine wpAnyH_take (i:=1) (v:=?_) rfl (by kernel_rfl) (by kernel_rfl) (by kernel_rfl) (fun _ _ _ h => h) (Yd5 ⟨by rfl,?_⟩) hS ?_
   rotate_left
   ·(intro w hSw; dsimp only [Yd1,Ydz,Yd0] at hSw ⊢; go_simp; try with_reducible rfl)
   dsimp only [Yd1,Ydz,Yd0]
   simp only [Act.put,Yd2,Yd4,Yd3]
   refine wpAnyH_take (i:=2) (v:=?_) rfl (by kernel_rfl) (by kernel_rfl) (by kernel_rfl) (fun _ _ _ h => h) (Yd5 ⟨by rfl,?_⟩) hS ?_
   rotate_left
   ·(intro w hSw; dsimp only [Yd1,Ydz,Yd0] at hSw ⊢; go_simp; try with_reducible rfl)
   dsimp only [Yd1,Ydz,Yd0]
   simp only [Act.put,Yd2,Yd4,Yd3]
   refine wpAnyH_take (i:=3) (v:=?_) rfl (by kernel_rfl) (by kernel_rfl) (by kernel_rfl) (fun _ _ _ h => h) (Yd5 ⟨by rfl,?_⟩) hS ?_
   rotate_left
   ·(intro w hSw; dsimp only [Yd1,Ydz,Yd0] at hSw ⊢; go_simp; try with_reducible rfl)
   dsimp only [Yd1,Ydz,Yd0]
   simp only [Act.put,Yd2,Yd4,Yd3]
   refine wpAnyH_take (i:=5) (v:=?_) rfl (by kernel_rfl) (by kernel_rfl) (by kernel_rfl) (fun _ _ _ h => h) (Yd5 ⟨by rfl,?_⟩) hS ?_
   rotate_left
   ·(intro w hSw; dsimp only [Yd1,Ydz,Yd0] at hSw ⊢; go_simp; try with_reducible rfl)
   dsimp only [Yd1,Ydz,Yd0]
   simp only [Act.put,Yd2,Yd4,Yd3]
   refine wpAnyH_take (i:=6) (v:=?_) rfl (by kernel_rfl) (by kernel_rfl) (by kernel_rfl) (fun _ _ _ h => h) (Yd5 ⟨by rfl,?_⟩) hS ?_
   rotate_left
   ·(intro w hSw; dsimp only [Yd1,Ydz,Yd0] at hSw ⊢; go_simp; try with_reducible rfl)
   dsimp only [Yd1,Ydz,Yd0]
   simp only [Act.put,Yd2,Yd4,Yd3]
   refine wpAnyH_take (i:=7) (v:=?_) rfl (by kernel_rfl) (by kernel_rfl) (by kernel_rfl) (fun _ _ _ h => h) (Yd5 ⟨by rfl,?_⟩) hS ?_
   rotate_left
   ·(intro w hSw; dsimp only [Yd1,Ydz,Yd0] at hSw ⊢; go_simp; try with_reducible rfl)
   dsimp only [Yd1,Ydz,Yd0]
   simp only [Act.put,Yd2,Yd4,Yd3]
   refine wpAnyH_take (i:=8) (v:=?_) rfl (by kernel_rfl) (by kernel_rfl) (by kernel_rfl) (fun _ _ _ h => h) (Yd5 ⟨by rfl,?_⟩) hS ?_
   rotate_left
   ·(intro w hSw; dsimp only [Yd1,Ydz,Yd0] at hSw ⊢; go_simp; try with_reducible rfl)
   dsimp only [Yd1,Ydz,Yd0]
   simp only [Act.put,Yd2,Yd4,Yd3]
   refine wpAnyH_take (i:=9) (v:=?_) rfl (by kernel_rfl) (by kernel_rfl) (by kernel_rfl) (fun _ _ _ h => h) (Yd5 ⟨by rfl,?_⟩) hS ?_
   rotate_left
   ·(intro w hSw; dsimp only [Yd1,Ydz,Yd0] at hSw ⊢; go_simp; try with_reducible rfl)
   dsimp only [Yd1,Ydz,Yd0]
   simp only [Act.put,Yd2,Yd4,Yd3]
   refine wpAnyH_take (i:=10) (v:=?_) rfl (by kernel_rfl) (by kernel_rfl) (by kernel_rfl) (fun _ _ _ h => h) (Yd5 ⟨by rfl,?_⟩) hS ?_
   rotate_left
   ·(intro w hSw; dsimp only [Yd1,Ydz,Yd0] at hSw ⊢; go_simp; try with_reducible rfl)
   dsimp only [Yd1,Ydz,Yd0]
   simp only [Act.put,Yd2,Yd4,Yd3]
   refine wpAnyH_ready (rs:=[4,11]) (by kernel_rfl) (by simp) ?_
   refine AllReadyH.cons rfl (fun K hK => ?_) (AllReadyH.cons rfl (fun K hK => ?_) AllReadyH.nil)
   ·dsimp only [Yd1,Ydz,Yd0]
    go_simp
    refine hK.out _ _ (by (try dsimp only); first | assumption | go_keep) (fun hS2 => ?_)
    clear hK K hS
    have hS := hS2
    clear hS2
    try simp only [Act.put,Yd2,Yd4,Yd3]
    refine wpAnyH_ready (rs:=[11]) (by kernel_rfl) (by simp) ?_
    refine AllReadyH.cons rfl (fun K hK => ?_) AllReadyH.nil
    dsimp only [Yd1,Ydz,Yd0]
    go_simp
    refine hK.out _ _ (by (try dsimp only); first | assumption | go_keep) (fun hS2 => ?_)
    clear hK K hS
    have hS := hS2
    clear hS2
    try simp only [Act.put,Yd2,Yd4,Yd3]
    refine wpAnyH_ready (rs:=[12]) (by kernel_rfl) (by simp) ?_
    refine AllReadyH.cons rfl (fun K hK => ?_) AllReadyH.nil
    (refine Jx (by rfl) _ _ _ (by rfl) Zt5 (by rfl) (HRW.out _) (B:=w5.heap.size) (c:=1) (cs:=#[.int .i64 t,.int .i64 o,.int .i64 pl,.int .i64 (-1),.int .i64 (-1)]) (tb:=105) (fr:=(0,0)) (by rfl) (Zh w5.drew _) (by rfl) (by simp [Value.oneCell']) hkn (w5.heap.size + 1) (by simp) ?_; intro g cap w6 hR6 hgrow hat hsz; have q0 := Ydy (HQ.out _ _ hgrow); have q1 := Za (j:=1) q0.out rfl; have q2 := Zc q0.out 1; have q6 := HX.out _ _ hgrow; have q7 := Za (j:=0) q6 rfl; have q8 := Za (j:=1) q6 rfl; have q10 := Za (j:=7) q6 rfl; have q11 := fun u => Zi (p:=⟨b,1,none⟩) (u:=u) q10 (Y2 hnb2); clear q6; have HR6 := Ydy hR6; have HG6 := Ydy (HO6.out _ _ hgrow); have hS5 : n0 ≠ b := hnb; have hS6 : b ≠ n0 := hnb2; clear hR6 hgrow)
    refine hK.out _ _ (by (try dsimp only); first | assumption | go_keep) (fun hS2 => ?_)
    clear hK K hS
    have hS := hS2
    clear hS2
    dsimp only [Yd1,Ydz,Yd0]
    try simp only [Act.put,Yd2,Yd4,Yd3]
    refine wpAnyH_take (i:=13) (v:=?_) rfl (by kernel_rfl) (by kernel_rfl) (by kernel_rfl) (fun _ _ _ h => h) (Yd5 ⟨by rfl,?_⟩) hS ?_
    rotate_left
    ·(intro w hSw; dsimp only [Yd1,Ydz,Yd0] at hSw ⊢; go_simp; try with_reducible rfl)
    dsimp only [Yd1,Ydz,Yd0]
    simp only [Act.put,Yd2,Yd4,Yd3]
    refine wpAnyH_take (i:=14) (v:=?_) rfl (by kernel_rfl) (by kernel_rfl) (by kernel_rfl) (fun _ _ _ h => h) (Yd5 ⟨by rfl,?_⟩) hS ?_
    rotate_left
    ·(intro w hSw; dsimp only [Yd1,Ydz,Yd0] at hSw ⊢; go_simp; try with_reducible rfl)
    dsimp only [Yd1,Ydz,Yd0]
    simp only [Act.put,Yd2,Yd4,Yd3]
    refine wpAnyH_ready (rs:=[15]) (by kernel_rfl) (by simp) ?_
    refine AllReadyH.cons rfl (fun K hK => ?_) AllReadyH.nil
    dsimp only [Yd1,Ydz,Yd0]
    go_simp
    refine hK.out _ _ (by (try dsimp only); first | assumption | go_keep) (fun hS2 => ?_)
    clear hK K hS
    have hS := hS2
    clear hS2
    try simp only [Act.put,Yd2,Yd4,Yd3]
    refine wpAnyH_done (by kernel_rfl) ?_ _
    go_wp2
    go_ret
    refine ⟨rfl,?_⟩
    exact HF.out _ _ _ HR6.out q0.out HG6.out.1 HG6.out.2
   ·dsimp only [Yd1,Ydz,Yd0]
    go_simp
    refine hK.out _ _ (by (try dsimp only); first | assumption | go_keep) (fun hS2 => ?_)
    clear hK K hS
    have hS := hS2
    clear hS2
    try simp only [Act.put,Yd2,Yd4,Yd3]
    refine wpAnyH_ready (rs:=[4]) (by kernel_rfl) (by simp) ?_
    refine AllReadyH.cons rfl (fun K hK => ?_) AllReadyH.nil
    dsimp only [Yd1,Ydz,Yd0]
    go_simp
    refine hK.out _ _ (by (try dsimp only); first | assumption | go_keep) (fun hS2 => ?_)
    clear hK K hS
    have hS := hS2
    clear hS2
    try simp only [Act.put,Yd2,Yd4,Yd3]
    refine wpAnyH_ready (rs:=[12]) (by kernel_rfl) (by simp) ?_
    refine AllReadyH.cons rfl (fun K hK => ?_) AllReadyH.nil
    (refine Jx (by rfl) _ _ _ (by rfl) Zt5 (by rfl) (HRW.out _) (B:=w5.heap.size) (c:=1) (cs:=#[.int .i64 t,.int .i64 o,.int .i64 pl,.int .i64 (-1),.int .i64 (-1)]) (tb:=105) (fr:=(0,0)) (by rfl) (Zh w5.drew _) (by rfl) (by simp [Value.oneCell']) hkn (w5.heap.size + 1) (by simp) ?_; intro g cap w6 hR6 hgrow hat hsz; have q0 := Ydy (HQ.out _ _ hgrow); have q1 := Za (j:=1) q0.out rfl; have q2 := Zc q0.out 1; have q6 := HX.out _ _ hgrow; have q7 := Za (j:=0) q6 rfl; have q8 := Za (j:=1) q6 rfl; have q10 := Za (j:=7) q6 rfl; have q11 := fun u => Zi (p:=⟨b,1,none⟩) (u:=u) q10 (Y2 hnb2); clear q6; have HR6 := Ydy hR6; have HG6 := Ydy (HO6.out _ _ hgrow); have hS5 : n0 ≠ b := hnb; have hS6 : b ≠ n0 := hnb2; clear hR6 hgrow)
    refine hK.out _ _ (by (try dsimp only); first | assumption | go_keep) (fun hS2 => ?_)
    clear hK K hS
    have hS := hS2
    clear hS2
    dsimp only [Yd1,Ydz,Yd0]
    try simp only [Act.put,Yd2,Yd4,Yd3]
    refine wpAnyH_take (i:=13) (v:=?_) rfl (by kernel_rfl) (by kernel_rfl) (by kernel_rfl) (fun _ _ _ h => h) (Yd5 ⟨by rfl,?_⟩) hS ?_
    rotate_left
    ·(intro w hSw; dsimp only [Yd1,Ydz,Yd0] at hSw ⊢; go_simp; try with_reducible rfl)
    dsimp only [Yd1,Ydz,Yd0]
    simp only [Act.put,Yd2,Yd4,Yd3]
    refine wpAnyH_take (i:=14) (v:=?_) rfl (by kernel_rfl) (by kernel_rfl) (by kernel_rfl) (fun _ _ _ h => h) (Yd5 ⟨by rfl,?_⟩) hS ?_
    rotate_left
    ·(intro w hSw; dsimp only [Yd1,Ydz,Yd0] at hSw ⊢; go_simp; try with_reducible rfl)
    dsimp only [Yd1,Ydz,Yd0]
    simp only [Act.put,Yd2,Yd4,Yd3]
    refine wpAnyH_ready (rs:=[15]) (by kernel_rfl) (by simp) ?_
    refine AllReadyH.cons rfl (fun K hK => ?_) AllReadyH.nil
    dsimp only [Yd1,Ydz,Yd0]
    go_simp
    refine hK.out _ _ (by (try dsimp only); first | assumption | go_keep) (fun hS2 => ?_)
    clear hK K hS
    have hS := hS2
    clear hS2
    try simp only [Act.put,Yd2,Yd4,Yd3]
    refine wpAnyH_done (by kernel_rfl) ?_ _
    go_wp2
    go_ret
    refine ⟨rfl,?_⟩
    exact HF.out _ _ _ HR6.out q0.out HG6.out.1 HG6.out.2
end
end Go.Proofs.YtdkhbegheognnaaGreatDoor.W

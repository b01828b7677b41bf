/- Part of the proof of TopEvicts, joined by a program of the session: Base Mix Nib Stat Quo Pm Ma. -/
import Derived.Test.YtdkhbegheognnaaGreatDoorProg
import Derived.WalkKit
import Derived.WalkSmall
import Derived.Maps.OwnSet
import Derived.OneCell
import Derived.Deep.Draws
import Derived.Deep.QuietTactic
import Derived.BigQuiet
import Derived.StillTailTactics
import Derived.Deep.RegionWith
import Derived.IntWalk
import Derived.Maps.RangeWalk
import Derived.Deep.AppendLies
import Derived.Lib.Hide
import Derived.Outline
import Derived.Deep.DeepCutAuto
import Derived.Deep.CutBlock
import Derived.LaidEqlPtr
import Derived.Laws.BitsAllLaws
import Derived.Laws.BitsLemmas
namespace Go.Proofs.YtdkhbegheognnaaGreatDoor.W
open Go.RowKit Go.Maps
open _root_.Go.Proofs.Tryz renaming prog → Ydz, ntmps134 → Yd8, ntmps179 → Yd9, ntmps206 → Yea, func134 → Yed, func179 → Yee, func206 → Yef, ntmps94 → Yeh, func94 → Yej
open _root_.Nat renaming lt_of_lt_of_le → Yd0, le_refl → Yd5, le_trans → Yeg
open _root_.Array renaming getElem?_eq_none → Yd1, ext_getElem? → Yd3, getElem?_modify → Yd7, getElem?_eq_getElem → Yeb
open _root_.Int renaming mul_le_mul_of_nonneg_left → Yd2, pow_pos → Yei
open _root_.List renaming replicate → Yd4, length_cons → Yec
open _root_.Option renaming some → Yd6, map_some → Yek
set_option maxHeartbeats 4000000
set_option maxRecDepth 100000
variable {b m i j : Nat}
variable {S T : Nat → Prop}
variable {w' : World}
variable {own : Nat → Nat}
variable {cs : Array Value}
variable {z : Value}
variable {ops : Array Oper}
variable {rest : List Oper}
variable {Q : Exit → Act → World → Prop}
variable {x : Operand}
variable {α : Type}
variable {l : List (Int × α)}
theorem Ze {w : World} {o : Obj} (h : w.heap[b]? = some o) : b < w.heap.size := by
 rcases Nat.lt_or_ge b w.heap.size with h' | h'
 ·exact h'
 ·simp [Yd1 h'] at h
structure Zb (S : Nat → Prop) (w w' : World) : Prop where
 os : w'.os = w.os
 tape : w'.tape = w.tape
 output : w'.output = w.output
 size : w.heap.size ≤ w'.heap.size
 block : ∀ k,k < w.heap.size → ¬ S k → w'.heap[k]? = w.heap[k]?
theorem Zb.refl (S : Nat → Prop) (w : World) : Zb S w w := ⟨rfl,rfl,rfl,Yd5 _,fun _ _ _ => rfl⟩
theorem Zb.trans {a b c : World} (h : Zb S a b) (k : Zb S b c) : Zb S a c :=
 ⟨k.os.trans h.os,k.tape.trans h.tape,k.output.trans h.output,Yeg h.size k.size,fun i hi hn => (k.block i (Yd0 hi h.size) hn).trans (h.block i hi hn)⟩
theorem Zb.mono {a b : World} (h : Zb S a b) (hs : ∀ k,k < a.heap.size → S k → T k) : Zb T a b := ⟨h.os,h.tape,h.output,h.size,fun i hi hn => h.block i hi (fun hk => hn (hs i hi hk))⟩
theorem Zb.then {a b c : World} (h : Zb S a b) (k : Zb T b c) (ht : ∀ i,i < a.heap.size → T i → S i) : Zb S a c :=
 ⟨k.os.trans h.os,k.tape.trans h.tape,k.output.trans h.output,Yeg h.size k.size,fun i hi hn => (k.block i (Yd0 hi h.size) (fun hT => hn (ht i hi hT))).trans (h.block i hi hn)⟩
theorem Zb.drew {a w : World} (h : Zb S a w) : Zb S a w.drew := ⟨h.os,h.tape,h.output,h.size,h.block⟩
theorem Zb.drewN {a w : World} (h : Zb S a w) (n : Nat) : Zb S a (w.drewN n) := h.trans ⟨rfl,rfl,rfl,Yd5 _,fun _ _ _ => rfl⟩
theorem Zb.alloc {a w : World} (h : Zb S a w) (o : Obj) : Zb S a (w.alloc o) :=
 h.trans ⟨rfl,rfl,rfl,by simp,fun k hk _ => RowKit.Below.heap_alloc w o k hk⟩
theorem Zb.setCell {a w : World} (h : Zb S a w) {p : Addr} (hp : S p.block ∨ a.heap.size ≤ p.block) (u : Value) : Zb S a (w.setCell p u) :=
 ⟨h.os,h.tape,h.output,by simpa using h.size,fun k hk hn => (RowKit.Below.heap_setCell w p u k (fun e => by subst e; exact hp.elim hn (fun h => absurd hk (by omega)))).trans (h.block k hk hn)⟩
theorem Zb.grown {a w : World} (h : Zb S a w) (hg : w.grownBy w' (some m)) (hm : S m ∨ a.heap.size ≤ m) : Zb S a w' :=
 ⟨hg.os.trans h.os,hg.tape.trans h.tape,hg.output.trans h.output,Yeg h.size hg.size,fun k hk hn => (hg.block k (Yd0 hk h.size) (fun e => by cases e; exact hm.elim hn (fun h => absurd hk (by omega)))).trans (h.block k hk hn)⟩
theorem Zb.turned {a w : World} (h : Zb S a w) (hg : w.mapTurned w' m) (hm : S m ∨ a.heap.size ≤ m) : Zb S a w' := h.grown hg.grown hm
theorem Zb.of_below {w : World} (h : Below w.heap.size w w') : Zb S w w' := ⟨h.os,h.tape,h.output,h.size,fun k hk _ => h.block k hk⟩
theorem Zb.below {w : World} (h : Zb S w w') {B : Nat} (hB : B ≤ w.heap.size) (hs : ∀ k,S k → B ≤ k) : Below B w w' :=
 ⟨h.os,h.tape,h.output,h.size,fun k hk => h.block k (Yd0 hk hB) (fun hS => by have := hs k hS; omega)⟩
theorem Zb.kept {w : World} {k : Nat} {o : Obj} (ho : Zb S w w') (h : w.heap[k]? = some o) (hk : ¬ S k) : w'.heap[k]? = some o := (ho.block k (Ze h) hk).trans h
def Ext (w : World) (own own' : Nat → Nat) : Prop := ∀ k,k < w.heap.size → own' k = own k
theorem Ext.refl (w : World) (own : Nat → Nat) : Ext w own own := fun _ _ => rfl
theorem Ext.trans {w : World} {a b c : Nat → Nat} (h : Ext w a b) (hs : w.heap.size ≤ w'.heap.size) (k : Ext w' b c) : Ext w a c := fun i hi => (k i (Yd0 hi hs)).trans (h i hi)
def ext (own : Nat → Nat) (n i : Nat) : Nat → Nat := fun k => if n ≤ k then i else own k
theorem Jp (w : World) (own : Nat → Nat) (i : Nat) : Ext w own (ext own w.heap.size i) := fun k hk => by unfold ext; rw [if_neg (by omega)]
theorem Jz {n k : Nat} (h : n ≤ k) : ext own n i k = i := by unfold ext; rw [if_pos h]
theorem Zz {n k : Nat} (h : k < n) : ext own n i k = own k := by unfold ext; rw [if_neg (by omega)]
def Own (own : Nat → Nat) (lo hi : Nat) : Nat → Prop := fun k => lo ≤ own k ∧ own k < hi
theorem Zo3 {w : World} {t : TypeId} {f : Nat × Nat} (h : w.heap[b]? = some (.cells cs t f)) (j : Nat) : w.cell? ⟨b,j,none⟩ = cs[j]? := by simp [World.cell?,h]
theorem Za {w : World} {t : TypeId} {f : Nat × Nat} (h : w.heap[b]? = some (.cells cs t f)) {v : Value} (hv : cs[j]? = some v) : w.cell? ⟨b,j,none⟩ = some v := by rw [Zo3 h,hv]
theorem Zc {w : World} {t : TypeId} (h : w.heap[b]? = some (.cells cs t (0,0))) (j : Nat) : w.frozen? ⟨b,j,none⟩ = false := by simp [World.frozen?,h]
theorem Zj {w : World} {t : TypeId} {f : Nat × Nat} (h : w.heap[b]? = some (.cells cs t f)) (j : Nat) (u : Value) :
  (w.setCell ⟨b,j,none⟩ u).heap[b]? = some (.cells (cs.setIfInBounds j u) t f) := by
 have hlt := Ze h
 have h' : w.heap[b] = .cells cs t f := by simpa [Yeb hlt] using h
 show (w.heap.modify b _)[b]? = _
 rw [Yeb (by simpa using hlt),Array.getElem_modify_self,h']
 rfl
theorem Z7 {w : World} {k : Nat} {o : Obj} (h : w.heap[k]? = some o) (hn : k ≠ b) (j : Nat) (u : Value) : (w.setCell ⟨b,j,none⟩ u).heap[k]? = some o := by
 rw [RowKit.Below.heap_setCell w ⟨b,j,none⟩ u k hn]; exact h
theorem Zm {w : World} {o o' : Obj} (h : w.heap[b]? = some o) : (w.alloc o').heap[b]? = some o := by rw [RowKit.Below.heap_alloc w o' b (Ze h)]; exact h
theorem Zh (w : World) (o : Obj) : (w.alloc o).heap[w.heap.size]? = some o := by
 show (w.heap.push o)[w.heap.size]? = _
 exact Array.getElem?_push_size
theorem Zi {w : World} {p a : Addr} {u v : Value} (h : w.cell? a = some v) (hne : p ≠ a) : (w.setCell p u).cell? a = some v := by rw [World.cell?_setCell_other _ _ _ _ hne]; exact h
theorem Zp9 (h : i ≠ j) : (⟨b,i,none⟩ : Addr) ≠ ⟨b,j,none⟩ := by intro e; cases e; exact h rfl
theorem Y2 {c : Nat} (h : b ≠ c) : (⟨b,i,none⟩ : Addr) ≠ ⟨c,j,none⟩ := by intro e; cases e; exact h rfl
theorem Zd {w : World} {a : Addr} {v : Value} (h : w.cell? a = some v) (ho : Zb S w w') (ha : ¬ S a.block) : w'.cell? a = some v := by
 have hlt : a.block < w.heap.size := World.block_lt_of_cell? w _ h
 rw [World.cell?_of_block (w:=w) (ho.block a.block hlt ha)]; exact h
theorem Zoa {k : IntKind} {a b : Int} (h : a = b) : Ending.returned (.int k a) = .returned (.int k b) := by rw [h]
def Zla (v : Value) : Option (DataW Value × List MemPlace) := some (.held v,[])
theorem Zq7 : Keyed Ydz 3 := int_keyed Tryz.underlying3
def I64 (k : Int) : Prop := -9223372036854775808 ≤ k ∧ k ≤ 9223372036854775807
theorem wfI {k : Int} (h : I64 k) : (Lit.int .i64 k).wf = true := WalkArith.wf_i64 h
theorem Zx2 {k : Int} (h : I64 k) : keyOf Ydz 3 (.int .i64 k) = some (.int .i64 k) := keyOf_int_mk Tryz.underlying3 (wfI h)
def Zs (w : World) (m : Nat) (f : Int → Option Value) (n : Nat) : Prop :=
 ∃ D : DataW Value,w.ownsMap Ydz 3 Zla m n D ∧ Maps.size D = n ∧ ∀ k,I64 k → Maps.has D (.int .i64 k) = (f k).isSome ∧ ∀ v,f k = some v → ∀ z,D.atKey (.int .i64 k) z = .held v
theorem Zs.lt {w : World} {n : Nat} {f : Int → Option Value} (h : Zs w m f n) : m < w.heap.size := by obtain ⟨D,hD,_⟩ := h; exact hD.lt
theorem Zs.of_block {w : World} {n : Nat} {f : Int → Option Value} (h : Zs w m f n) (hb : w'.heap[m]? = w.heap[m]?) : Zs w' m f n := by
 obtain ⟨D,⟨es,clock,hh,r⟩,hq⟩ := h
 exact ⟨D,⟨es,clock,hb.trans hh,r⟩,hq⟩
theorem Zs.kept {w : World} {n : Nat} {f : Int → Option Value} (h : Zs w m f n) (ho : Zb S w w') (hm : ¬ S m) : Zs w' m f n := h.of_block (ho.block m h.lt hm)
theorem Zs.alloc {w : World} {n : Nat} {f : Int → Option Value} (h : Zs w m f n) (o : Obj) : Zs (w.alloc o) m f n := h.of_block (RowKit.Below.heap_alloc w o m h.lt)
theorem Zs.setCell {w : World} {n : Nat} {f : Int → Option Value} (h : Zs w m f n) {a : Addr} (ha : m ≠ a.block) (u : Value) : Zs (w.setCell a u) m f n := h.of_block (RowKit.Below.heap_setCell w a u m ha)
theorem Zs.drew {w : World} {n : Nat} {f : Int → Option Value} (h : Zs w m f n) : Zs w.drew m f n := h.of_block rfl
theorem Zs.drewN {w : World} {n : Nat} {f : Int → Option Value} (h : Zs w m f n) (k : Nat) : Zs (w.drewN k) m f n := h.of_block rfl
theorem Zs.made (w : World) : Zs (w.alloc (.map #[] 0)) w.heap.size (fun _ => none) 0 :=
 ⟨.map [],World.ownsMap_made w _ _ _,rfl,fun _ _ => ⟨by simp [Maps.has],fun _ h => by simp at h⟩⟩
theorem Zs.eq {w : World} {n : Nat} {f g : Int → Option Value} (h : Zs w m f n) (hg : ∀ k,I64 k → g k = f k) : Zs w m g n := by
 obtain ⟨D,h1,h2,h3⟩ := h
 exact ⟨D,h1,h2,fun k hk => by rw [hg k hk]; exact h3 k hk⟩
def upd (f : Int → Option Value) (k : Int) (v : Option Value) : Int → Option Value := fun i => if i = k then v else f i
theorem Za4 (f : Int → Option Value) (k : Int) (v : Option Value) : upd f k v k = v := if_pos rfl
theorem Jk {f : Int → Option Value} {k i : Int} {v : Option Value} (h : i ≠ k) : upd f k v i = f i := if_neg h
theorem Zpb {a b : Int} (h : a ≠ b) : (Lit.int .i64 a) ≠ Lit.int .i64 b := by intro e; cases e; exact h rfl
theorem Zz2 {P : Program} {k : TypeId} {H : Type} {R : Value → Option (DataW H × List MemPlace)} {w : World} {n : Nat} {D : DataW H} (h : w.ownsMap P k R m n D) : w.ownsMap P k R m (Maps.size D) D := by
 obtain ⟨es,clock,hh,F,_,rfl⟩ := h
 exact ⟨es,clock,hh,F,by simp [Maps.size,length_sorted],rfl⟩
theorem Zs.look {w : World} {n : Nat} {f : Int → Option Value} (h : Zs w m f n) {t e : TypeId} (ht : Ydz.underlying t = some (.map 3 e)) (hz : (zeroValue e).run Ydz w = .ok z w) {k : Int} (hk : I64 k) :
  (Instr.lookup t (.map (some m)) (.int .i64 k) true).run Ydz w = .ok (.tuple #[(f k).getD z,.bool (f k).isSome]) w := by
 obtain ⟨D,hD,_,hf⟩ := h
 obtain ⟨h1,h2⟩ := hf k hk
 obtain ⟨v,ps,hr,hv⟩ := hD.look_ok Zq7 ht hz (zd:=.held z) (zp:=[]) rfl (Zx2 hk)
 rw [hr,h1]
 cases hfk : f k with
 | none =>
  rw [hfk] at h1
  rw [atKey_of_not_has h1] at hv
  simp only [Zla,Yd6.injEq,Prod.mk.injEq,DataW.held.injEq] at hv
  rw [hv.1]; rfl
 | some u =>
  rw [h2 u hfk] at hv
  simp only [Zla,Yd6.injEq,Prod.mk.injEq,DataW.held.injEq] at hv
  rw [hv.1]; rfl
theorem Zs.get {w : World} {n : Nat} {f : Int → Option Value} (h : Zs w m f n) {t e : TypeId} (ht : Ydz.underlying t = some (.map 3 e)) (hz : (zeroValue e).run Ydz w = .ok z w) {k : Int} (hk : I64 k) :
  (Instr.lookup t (.map (some m)) (.int .i64 k) false).run Ydz w = .ok ((f k).getD z) w := by
 obtain ⟨D,hD,_,hf⟩ := h
 obtain ⟨h1,h2⟩ := hf k hk
 obtain ⟨v,ps,hr,hv⟩ := hD.lookup Zq7 ht hz (zd:=.held z) (zp:=[]) rfl (Zx2 hk)
 rw [hr]
 cases hfk : f k with
 | none =>
  rw [hfk] at h1
  rw [atKey_of_not_has h1] at hv
  simp only [Zla,Yd6.injEq,Prod.mk.injEq,DataW.held.injEq] at hv
  rw [hv.1]; rfl
 | some u =>
  rw [h2 u hfk] at hv
  simp only [Zla,Yd6.injEq,Prod.mk.injEq,DataW.held.injEq] at hv
  rw [hv.1]; rfl
theorem Zs.len {w : World} {n : Nat} {f : Int → Option Value} (h : Zs w m f n) {t e : TypeId} (ht : Ydz.underlying t = some (.map 3 e)) (ty : TypeId) :
  (Builtin.len_ #[t] ty #[.map (some m)]).run Ydz w = .ok (.int .i64 (n : Int)) w := by
 obtain ⟨D,hD,hn,_⟩ := h
 rw [hD.len ht ty,hn]
theorem Zs.put {w : World} {n : Nat} {f : Int → Option Value} (h : Zs w m f n) {t e : TypeId} (ht : Ydz.underlying t = some (.map 3 e)) (hn : n < 1000000) {k : Int} (hk : I64 k) (v : Value) :
  ∃ w',(Instr.mapUpdate t (.map (some m)) (.int .i64 k) v).run Ydz w = .ok () w' ∧ Zs w' m (upd f k (some v)) (if (f k).isSome then n else n + 1) ∧ w.mapTurned w' m := by
 obtain ⟨D,hD,hs,hf⟩ := h
 obtain ⟨w',hr,ho,htn⟩ := hD.store (val:=v) Zq7 ht (by unfold maxLen; omega) (Zx2 hk) (d:=.held v) (ps:=[]) rfl
 have hT := hD.tidy Zq7
 have hsz : Maps.size (D.put (.int .i64 k) (.held v)) = if (f k).isSome then n else n + 1 := by rw [size_put hT,(hf k hk).1,hs]
 refine ⟨w',hr,⟨D.put (.int .i64 k) (.held v),?_,hsz,fun i hi => ?_⟩,htn⟩
 ·have := Zz2 ho
  rw [hsz] at this
  exact this
 ·by_cases hik : i = k
  ·subst hik
   rw [Za4]
   refine ⟨by rw [has_put_same (k:=.int .i64 i) hT.isMap trivial]; rfl,fun u hu z => ?_⟩
   cases hu
   exact atKey_put_same (k:=.int .i64 i) hT.isMap trivial _ _
  ·rw [Jk hik]
   obtain ⟨h1,h2⟩ := hf i hi
   refine ⟨by rw [has_put_other (Zpb hik)]; exact h1,fun u hu z => ?_⟩
   rw [atKey_put_other (Zpb hik)]
   exact h2 u hu z
theorem Zs.del {w : World} {n : Nat} {f : Int → Option Value} (h : Zs w m f n) {t e : TypeId} (ht : Ydz.underlying t = some (.map 3 e)) {k : Int} (hk : I64 k) (ty : TypeId) :
  ∃ w',(Builtin.delete_ #[t,3] ty #[.map (some m),.int .i64 k]).run Ydz w = .ok (.tuple #[]) w' ∧ Zs w' m (upd f k none) (if (f k).isSome then n - 1 else n) ∧ w.mapTurned w' m := by
 obtain ⟨D,hD,hs,hf⟩ := h
 obtain ⟨w',hr,ho,htn⟩ := hD.drop Zq7 ht (Zx2 hk) ty
 have hT := hD.tidy Zq7
 have hsz : Maps.size (D.del (.int .i64 k)) = if (f k).isSome then n - 1 else n := by
  have := size_del (k:=.int .i64 k) hT
  rw [(hf k hk).1,hs] at this
  split at this <;> split <;> simp_all <;> omega
 refine ⟨w',hr,⟨D.del (.int .i64 k),?_,hsz,fun i hi => ?_⟩,htn⟩
 ·have := Zz2 ho
  rw [hsz] at this
  exact this
 ·by_cases hik : i = k
  ·subst hik
   rw [Za4]
   exact ⟨has_del_same,fun u hu => by simp at hu⟩
  ·rw [Jk hik]
   obtain ⟨h1,h2⟩ := hf i hi
   refine ⟨by rw [has_del_other (Zpb hik)]; exact h1,fun u hu z => ?_⟩
   rw [atKey_del_other (Zpb hik)]
   exact h2 u hu z
theorem Y0 {w : World} {o : Oper} {a : Act} (hg : o.guard = none) {m v : Operand} {t : TypeId} (hop : o.op = Op.mapUpdate t m x v)
  {e : TypeId} (ht : Ydz.underlying t = some (.map 3 e)) {b n : Nat} {f : Int → Option Value} (hm : a.eval m = .map (some b)) (h : Zs w b f n) (hn : n < 1000000) {k : Int} {val : Value} (hx : a.eval x = .int .i64 k) (hv : a.eval v = val) (hk : I64 k)
  (hK : ∀ w',Zs w' b (upd f k (some val)) (if (f k).isSome then n else n + 1) → w.mapTurned w' b → wpList Ydz ops Q rest (a.put o.dst undef) w') :
  wpList Ydz ops Q (o :: rest) a w := by
 refine wpList_plain hg fun K' hK' => ?_
 obtain ⟨w',hrun,r1,r2⟩ := h.put ht hn hk val
 unfold Oper.wp
 simp [execOp,hop,hm,hx,hv,hrun,Result.andThen]
 exact hK' _ _ (hK w' r1 r2)
theorem J8 {w : World} {o : Oper} {a : Act} (hg : o.guard = none) {m : Operand} {t : TypeId} (hop : o.op = Op.call { callee := Callee.builtin Builtin.delete,args := #[m,x],argTypes := #[t,3] })
  {e : TypeId} (ht : Ydz.underlying t = some (.map 3 e)) {b n : Nat} {f : Int → Option Value} (hm : a.eval m = .map (some b)) (h : Zs w b f n) {k : Int} (hx : a.eval x = .int .i64 k) (hk : I64 k)
  (hK : ∀ w',Zs w' b (upd f k none) (if (f k).isSome then n - 1 else n) → w.mapTurned w' b → wpList Ydz ops Q rest (a.put o.dst (.tuple #[])) w') :
  wpList Ydz ops Q (o :: rest) a w := by
 refine wpList_plain hg fun K' hK' => ?_
 obtain ⟨w',hrun,r1,r2⟩ := h.del ht hk o.type
 unfold Oper.wp
 simp [execOp,hop,resolve,invoke,builtin,hm,hx,hrun,Result.andThen]
 exact hK' _ _ (hK w' r1 r2)
structure Sm (a b : World) : Prop where
 heap : b.heap = a.heap
 os : b.os = a.os
 tape : b.tape = a.tape
 output : b.output = a.output
theorem Sm.refl (a : World) : Sm a a := ⟨rfl,rfl,rfl,rfl⟩
theorem Sm.trans {a b c : World} (h : Sm a b) (k : Sm b c) : Sm a c := ⟨k.heap.trans h.heap,k.os.trans h.os,k.tape.trans h.tape,k.output.trans h.output⟩
theorem Sm.only {a b : World} (h : Sm a b) : Zb S a b := ⟨h.os,h.tape,h.output,by rw [h.heap]; exact Yd5 _,fun _ _ _ => by rw [h.heap]⟩
theorem Sm.cell {a b : World} (h : Sm a b) (p : Addr) : b.cell? p = a.cell? p := by simp [World.cell?,h.heap]
theorem Sm.frozen {a b : World} (h : Sm a b) (p : Addr) : b.frozen? p = a.frozen? p := by simp [World.frozen?,h.heap]
theorem Sm.size {a b : World} (h : Sm a b) : b.heap.size = a.heap.size := by rw [h.heap]
theorem Sm.block {a b : World} (h : Sm a b) {k : Nat} {o : Obj} (hb : a.heap[k]? = some o) : b.heap[k]? = some o := by rw [h.heap]; exact hb
theorem Sm.map {a b : World} (h : Sm a b) {n : Nat} {f : Int → Option Value} (hm : Zs a m f n) : Zs b m f n := hm.of_block (by rw [h.heap])
theorem Sm.then_only {a b c : World} (h : Zb S a b) (k : Sm b c) : Zb S a c := h.trans k.only
theorem Yq {w : World} (h : w.mapTurned w' m) (hb : b ≠ m) : w'.heap[b]? = w.heap[b]? := by
 rcases Nat.lt_or_ge b w.heap.size with hl | hl
 ·exact h.grown.block b hl (fun e => hb (Yd6.inj e))
 ·obtain ⟨es,clock,es',clock',hb',rfl⟩ := h
  rw [Yd1 hl,Yd1 (by simpa [ChangeMaps.setBlock] using hl)]
theorem Z4 {id : Nat} {a : Act} {w : World} {l : List Oper} (n : Nat) (hm : Ydz.follows .mixedOrders = true) (hB : Region.lexTailB .any l.toArray n = true)
  (h : ∀ w2 : World,(∀ a,w2.cell? a = w.cell? a) → (∀ a,w2.frozen? a = w.frozen? a) → w2.heap.size = w.heap.size → Hid (w.drew = w2) → wpStill Ydz l.toArray w2 (fun a' => wpList Ydz l.toArray Q (l.drop n) a' w2) (l.take n) a) :
  (Code.region id l.toArray true).wp Ydz Q a w :=
 wp_region_still_tail n hm hB (h w.drew (fun _ => rfl) (fun _ => rfl) rfl rfl)
theorem Vi (w : World) {a b : Addr} (h : a ≠ b) (u v : Value) (ha : a.spot = none) (hb : b.spot = none) : (w.setCell a u).setCell b v = (w.setCell b v).setCell a u := by
 obtain ⟨ab,ao,sa⟩ := a
 obtain ⟨bb,bo,sb⟩ := b
 simp only at ha hb
 subst ha; subst hb
 unfold World.setCell
 congr 1
 simp only
 apply Yd3
 intro i
 simp only [Yd7]
 by_cases h1 : ab = i <;> by_cases h2 : bb = i
 ·subst h1; subst h2
  have hne : ao ≠ bo := by intro e; subst e; exact h rfl
  simp only [if_true]
  cases w.heap[bb]? with
  | none => rfl
  | some o =>
   simp only [Yek]
   cases o <;> simp
   apply Array.setIfInBounds_comm
   exact hne
 ·simp [h1,h2]
 ·simp [h1,h2]
 ·simp [h1,h2]
theorem Zg {w : World} {v : Value} (h : w.cell? ⟨b,j,none⟩ = some v) : w.setCell ⟨b,j,none⟩ v = w := by
 obtain ⟨hp,tp,dr,os,ou⟩ := w
 unfold World.setCell
 congr 1
 apply Yd3
 intro i
 simp only
 rw [Yd7]
 split
 ·rename_i e; subst e
  simp only [World.cell?] at h
  cases hb : hp[b]? with
  | none => rfl
  | some o =>
   rw [hb] at h
   cases o with
   | cells cs t f =>
    simp only at h
    simp only [Yek,Yd6.injEq,Obj.cells.injEq,and_true,Option.isSome_none,Bool.false_eq_true,if_false]
    apply Yd3
    intro k
    rw [Array.getElem?_setIfInBounds]
    split
    ·rename_i e; subst e
     split
     ·exact h.symm
     ·rename_i hh; simp [Yd1 (Nat.le_of_not_lt hh)]
    ·rfl
   | _ => rfl
 ·rfl
theorem Zf (w : World) (b j : Nat) (u v : Value) : (w.setCell ⟨b,j,none⟩ u).setCell ⟨b,j,none⟩ v = w.setCell ⟨b,j,none⟩ v := by
 unfold World.setCell
 congr 1
 apply Yd3
 intro i
 simp only [Yd7]
 split
 ·cases w.heap[i]? with
  | none => rfl
  | some o => cases o <;> simp
 ·rfl
abbrev No : Nat → Prop := fun _ => False
theorem Zb.no {a b : World} (h : Zb No a b) : Zb S a b := h.mono (fun _ _ h => h.elim)
theorem blk {w w1 : World} {o : Obj} (ho : Zb No w w1) (h : w.heap[b]? = some o) : w1.heap[b]? = some o := ho.kept h (fun h => h)
theorem Zbv (w : World) (o1 o2 : Obj) : ((w.alloc o1).alloc o2).heap[w.heap.size]? = some o1 := Zm (Zh w o1)
theorem Kj (w : World) (o1 o2 : Obj) : ((w.alloc o1).alloc o2).heap[w.heap.size + 1]? = some o2 := by have := Zh (w.alloc o1) o2; simpa using this
theorem Zas {w : World} {o : Obj} (h : w.heap[b]? = some o) : w.drew.heap[b]? = some o := h
theorem Ydy {p : Prop} (h : p) : Hid p := Lib.hid h
def U64 (a : Int) : Prop := 0 ≤ a ∧ a < 18446744073709551616
theorem Zdx (op : BinOp) (a b : Int) : U64 (Go.bits op .u64 a b) := by
 unfold Go.bits U64
 have h : ∀ n : Int,0 ≤ IntKind.u64.wrap n ∧ IntKind.u64.wrap n < 18446744073709551616 := fun n => by
  simp only [IntKind.wrap_u64]; omega
 split <;> exact h _
def Ydl (seed key : Int) : Int := Go.bits .xor .u64 (IntKind.u64.wrap key) (IntKind.u64.wrap (IntKind.u64.wrap seed * 11400714819323198485))
def Ydm (x : Int) : Int := IntKind.u64.wrap (Go.bits .xor .u64 x (x / 1073741824) * 13787848793156543929)
def Ydn (x : Int) : Int := IntKind.u64.wrap (Go.bits .xor .u64 x (x / 134217728) * 10723151780598845931)
def Ycq (x : Int) : Int := Go.bits .xor .u64 x (x / 2147483648)
def Yf (seed key : Int) : Int := Ycq (Ydn (Ydm (Ydl seed key)))
theorem Zed (seed key : Int) : U64 (Yf seed key) := by unfold Yf Ycq; exact Zdx _ _ _
theorem Zee (seed key : Int) (w : World) : Calls Ydz 135 #[.int .i64 seed,.int .i64 key] w fun e w' => e = .returned (.int .u64 (Yf seed key)) ∧ w = w' := by
 go_enter Tryz.func135,Tryz.ntmps135
 go_wp2
 go_ret
 exact ⟨rfl,rfl⟩
def Kh (h : Int) : Nat → Int
 | 0 => Go.bits .or .u64 h (h / 18446744073709551616)
 | 1 => Go.bits .or .u64 (IntKind.u64.wrap (h * 65536)) (h / 281474976710656)
 | 2 => Go.bits .or .u64 (IntKind.u64.wrap (h * 4294967296)) (h / 4294967296)
 | _ => Go.bits .or .u64 (IntKind.u64.wrap (h * 281474976710656)) (h / 65536)
theorem Zep (h : Int) (r : Nat) : U64 (Kh h r) := by
 unfold Kh
 split <;> exact Zdx _ _ _
theorem Ydp (h : Int) (hh : U64 h) (w : World) : Calls Ydz 206 #[.int .u64 h,.int .i64 0] w fun e w' => e = .returned (.int .u64 (Kh h 0)) ∧ w = w' := by
 obtain ⟨h0,h1⟩ := hh
 have hb : Go.bits .and .u64 0 63 = 0 := by decide +kernel
 go_enter Yef,Yea
 go_wp2
 go_ret
 exact ⟨rfl,rfl⟩
theorem Yda (h : Int) (hh : U64 h) (w : World) : Calls Ydz 179 #[.int .u64 h,.int .i64 0] w fun e w' => e = .returned (.int .u64 (Kh h 0)) ∧ w = w' := by
 have H := Ydy (Ydp h hh w)
 go_enter Yee,Yd9
 go_wp2_with fail
 refine (H.out).mono ?_
 rintro e w' ⟨rfl,rfl⟩
 go_wp2
 go_ret
 exact ⟨rfl,rfl⟩
theorem Ydq (h : Int) (hh : U64 h) (w : World) : Calls Ydz 206 #[.int .u64 h,.int .i64 16] w fun e w' => e = .returned (.int .u64 (Kh h 1)) ∧ w = w' := by
 obtain ⟨h0,h1⟩ := hh
 have hb : Go.bits .and .u64 16 63 = 16 := by decide +kernel
 go_enter Yef,Yea
 go_wp2
 go_ret
 exact ⟨rfl,rfl⟩
theorem Ydb (h : Int) (hh : U64 h) (w : World) : Calls Ydz 179 #[.int .u64 h,.int .i64 16] w fun e w' => e = .returned (.int .u64 (Kh h 1)) ∧ w = w' := by
 have H := Ydy (Ydq h hh w)
 go_enter Yee,Yd9
 go_wp2_with fail
 refine (H.out).mono ?_
 rintro e w' ⟨rfl,rfl⟩
 go_wp2
 go_ret
 exact ⟨rfl,rfl⟩
theorem Ydr (h : Int) (hh : U64 h) (w : World) : Calls Ydz 206 #[.int .u64 h,.int .i64 32] w fun e w' => e = .returned (.int .u64 (Kh h 2)) ∧ w = w' := by
 obtain ⟨h0,h1⟩ := hh
 have hb : Go.bits .and .u64 32 63 = 32 := by decide +kernel
 go_enter Yef,Yea
 go_wp2
 go_ret
 exact ⟨rfl,rfl⟩
theorem Ydc (h : Int) (hh : U64 h) (w : World) : Calls Ydz 179 #[.int .u64 h,.int .i64 32] w fun e w' => e = .returned (.int .u64 (Kh h 2)) ∧ w = w' := by
 have H := Ydy (Ydr h hh w)
 go_enter Yee,Yd9
 go_wp2_with fail
 refine (H.out).mono ?_
 rintro e w' ⟨rfl,rfl⟩
 go_wp2
 go_ret
 exact ⟨rfl,rfl⟩
theorem Yds (h : Int) (hh : U64 h) (w : World) : Calls Ydz 206 #[.int .u64 h,.int .i64 48] w fun e w' => e = .returned (.int .u64 (Kh h 3)) ∧ w = w' := by
 obtain ⟨h0,h1⟩ := hh
 have hb : Go.bits .and .u64 48 63 = 48 := by decide +kernel
 go_enter Yef,Yea
 go_wp2
 go_ret
 exact ⟨rfl,rfl⟩
theorem Ydd (h : Int) (hh : U64 h) (w : World) : Calls Ydz 179 #[.int .u64 h,.int .i64 48] w fun e w' => e = .returned (.int .u64 (Kh h 3)) ∧ w = w' := by
 have H := Ydy (Yds h hh w)
 go_enter Yee,Yd9
 go_wp2_with fail
 refine (H.out).mono ?_
 rintro e w' ⟨rfl,rfl⟩
 go_wp2
 go_ret
 exact ⟨rfl,rfl⟩
def Ye (h : Int) (r : Nat) (n : Nat) : Nat := (Kh h r % (n : Int)).toNat
theorem Qo (h : Int) (r : Nat) {n : Nat} (hn : 0 < n) : Ye h r n < n := by
 unfold Ye
 have h1 : 0 ≤ Kh h r % (n : Int) := Int.emod_nonneg _ (by omega)
 have h2 : Kh h r % (n : Int) < (n : Int) := Int.emod_lt_of_pos _ (by omega)
 omega
theorem Zf1 (h : Int) (r : Nat) {n : Nat} (hn : 0 < n) : Kh h r % (n : Int) = (Ye h r n : Int) := by
 unfold Ye
 have h1 : 0 ≤ Kh h r % (n : Int) := Int.emod_nonneg _ (by omega)
 omega
theorem Znm (h : Int) (hh : U64 h) (n : Nat) (hn : 0 < n) (hn2 : n ≤ 100000) (w : World) : Calls Ydz 134 #[.int .u64 h,.int .i64 0,.int .i64 (n : Int)] w fun e w' => e = .returned (.int .i64 (Ye h 0 n : Int)) ∧ w = w' := by
 have H := Ydy (Yda h hh w)
 have hi := Zf1 h 0 hn
 have hl := Qo h 0 hn
 obtain ⟨t0,t1⟩ := Zep h 0
 generalize Kh h 0 = tv at *
 generalize Ye h 0 n = ix at *
 have hp : ¬ ((n : Int) < 1) := by omega
 have hw : IntKind.u64.wrap (n : Int) = (n : Int) := by simp only [IntKind.wrap_u64]; omega
 have hz : ((n : Int) == 0) = false := beq_eq_false_iff_ne.2 (by omega)
 go_enter Yed,Yd8
 go_wp2_with fail
 refine (H.out).mono ?_
 rintro e w' ⟨rfl,rfl⟩
 go_wp2
 go_ret
 exact ⟨rfl,rfl⟩
theorem Yav (h : Int) (hh : U64 h) (n : Nat) (hn : 0 < n) (hn2 : n ≤ 100000) (w : World) : Calls Ydz 134 #[.int .u64 h,.int .i64 1,.int .i64 (n : Int)] w fun e w' => e = .returned (.int .i64 (Ye h 1 n : Int)) ∧ w = w' := by
 have H := Ydy (Ydb h hh w)
 have hi := Zf1 h 1 hn
 have hl := Qo h 1 hn
 obtain ⟨t0,t1⟩ := Zep h 1
 generalize Kh h 1 = tv at *
 generalize Ye h 1 n = ix at *
 have hp : ¬ ((n : Int) < 1) := by omega
 have hw : IntKind.u64.wrap (n : Int) = (n : Int) := by simp only [IntKind.wrap_u64]; omega
 have hz : ((n : Int) == 0) = false := beq_eq_false_iff_ne.2 (by omega)
 go_enter Yed,Yd8
 go_wp2_with fail
 refine (H.out).mono ?_
 rintro e w' ⟨rfl,rfl⟩
 go_wp2
 go_ret
 exact ⟨rfl,rfl⟩
theorem Zus (h : Int) (hh : U64 h) (n : Nat) (hn : 0 < n) (hn2 : n ≤ 100000) (w : World) : Calls Ydz 134 #[.int .u64 h,.int .i64 2,.int .i64 (n : Int)] w fun e w' => e = .returned (.int .i64 (Ye h 2 n : Int)) ∧ w = w' := by
 have H := Ydy (Ydc h hh w)
 have hi := Zf1 h 2 hn
 have hl := Qo h 2 hn
 obtain ⟨t0,t1⟩ := Zep h 2
 generalize Kh h 2 = tv at *
 generalize Ye h 2 n = ix at *
 have hp : ¬ ((n : Int) < 1) := by omega
 have hw : IntKind.u64.wrap (n : Int) = (n : Int) := by simp only [IntKind.wrap_u64]; omega
 have hz : ((n : Int) == 0) = false := beq_eq_false_iff_ne.2 (by omega)
 go_enter Yed,Yd8
 go_wp2_with fail
 refine (H.out).mono ?_
 rintro e w' ⟨rfl,rfl⟩
 go_wp2
 go_ret
 exact ⟨rfl,rfl⟩
theorem Yaw (h : Int) (hh : U64 h) (n : Nat) (hn : 0 < n) (hn2 : n ≤ 100000) (w : World) : Calls Ydz 134 #[.int .u64 h,.int .i64 3,.int .i64 (n : Int)] w fun e w' => e = .returned (.int .i64 (Ye h 3 n : Int)) ∧ w = w' := by
 have H := Ydy (Ydd h hh w)
 have hi := Zf1 h 3 hn
 have hl := Qo h 3 hn
 obtain ⟨t0,t1⟩ := Zep h 3
 generalize Kh h 3 = tv at *
 generalize Ye h 3 n = ix at *
 have hp : ¬ ((n : Int) < 1) := by omega
 have hw : IntKind.u64.wrap (n : Int) = (n : Int) := by simp only [IntKind.wrap_u64]; omega
 have hz : ((n : Int) == 0) = false := beq_eq_false_iff_ne.2 (by omega)
 go_enter Yed,Yd8
 go_wp2_with fail
 refine (H.out).mono ?_
 rintro e w' ⟨rfl,rfl⟩
 go_wp2
 go_ret
 exact ⟨rfl,rfl⟩
theorem Ziq (n : Int) (h0 : 0 < n) (h1 : n ≤ 65536) (hb : Go.bits .and .i64 n (n - 1) = 0) (w : World) : Calls Ydz 82 #[.int .i64 n] w fun e w' => e = .returned (.bool true) ∧ w = w' := by
 go_enter Tryz.func82,Tryz.ntmps82
 go_wp2
 go_ret
 exact ⟨rfl,rfl⟩
def upV (n : Int) : Nat → Int → Int
 | 0,x => x
 | d + 1,x => if x < n then upV n d (x * 2) else x
def Ybv (n most R : Int) (t : Value) : Prop := ∃ (j : Nat) (x : Int),t = .int .i64 x ∧ 0 < x ∧ x ≤ most ∧ x * 2 ^ j = most ∧ upV n j x = R
theorem Zap (n least most : Int) (d : Nat) (h0 : 0 < least) (h1 : least * 2 ^ d = most) (h2 : most ≤ 65536) (hb : Go.bits .and .i64 least (least - 1) = 0) (hb2 : Go.bits .and .i64 most (most - 1) = 0) (w : World) :
  Calls Ydz 49 #[.int .i64 n,.int .i64 least,.int .i64 most] w fun e w' => e = .returned (.int .i64 (upV n d least)) ∧ w = w' := by
 have hp : (1 : Int) ≤ 2 ^ d := by have : (0 : Int) < 2 ^ d := Yei (by omega); omega
 have hlm : least ≤ most := by
  rw [← h1]
  have : least * 1 ≤ least * 2 ^ d := Yd2 hp (by omega)
  omega
 have P1 := Ydy (Ziq least h0 (by omega) hb w)
 have P2 := Ydy (Ziq most (by omega) h2 hb2 w)
 have H1 := Ydy h1
 clear hb hb2 h1 hp
 have hng : ¬ (least > most) := by omega
 go_enter Tryz.func49,Tryz.ntmps49
 go_wp2_with fail
 refine (P1.out).mono ?_
 rintro e w' ⟨rfl,rfl⟩
 go_wp2_with fail
 refine (P2.out).mono ?_
 rintro e w' ⟨rfl,rfl⟩
 go_wp2
 generalize hR : upV n d least = R
 have HR := Ydy hR
 clear hR
 go_loop [7] (fun t => Ybv n most R t) (fun t => (most - intOf t).toNat)
 case atStart => exact ⟨d,least,rfl,h0,hlm,H1.out,HR.out⟩
 case round =>
  obtain ⟨j,x,rfl,hx0,hxm,hxj,hxr⟩ := hrel
  have HJ := Ydy hxj
  have HX := Ydy hxr
  clear hxj hxr
  by_cases hn : x < n
  ·by_cases hm : x < most
   ·go_wp2
    go_round
    case rel =>
     cases j with
     | zero => have := HJ.out; simp at this; omega
     | succ j =>
      have e : x * 2 * 2 ^ j = most := by have := HJ.out; rw [Int.pow_succ,Int.mul_comm (2 ^ j) 2,← Int.mul_assoc] at this; exact this
      have hp : (1 : Int) ≤ 2 ^ j := by have : (0 : Int) < 2 ^ j := Yei (by omega); omega
      have hle : x * 2 ≤ most := by
       rw [← e]
       have : x * 2 * 1 ≤ x * 2 * 2 ^ j := Yd2 hp (by omega)
       omega
      refine ⟨j,x * 2,rfl,by omega,hle,e,?_⟩
      have := HX.out
      rw [upV,if_pos hn] at this
      exact this
    case measure => simp [intOf]; omega
   ·have hR : R = x := by
     have := HX.out
     cases j with
     | zero => exact this.symm
     | succ j =>
      have e : x * 2 * 2 ^ j = most := by have := HJ.out; rw [Int.pow_succ,Int.mul_comm (2 ^ j) 2,← Int.mul_assoc] at this; exact this
      have hp : (1 : Int) ≤ 2 ^ j := by have : (0 : Int) < 2 ^ j := Yei (by omega); omega
      have : x * 2 * 1 ≤ x * 2 * 2 ^ j := Yd2 hp (by omega)
      omega
    have HR' := Ydy hR
    clear hR
    go_wp2
    go_ret
    exact ⟨by rw [HR.out,HR'.out]; rfl,rfl⟩
  ·have hR : R = x := by
    have := HX.out
    cases j with
    | zero => exact this.symm
    | succ j => rw [upV,if_neg hn] at this; exact this.symm
   have HR' := Ydy hR
   clear hR
   go_wp2
   go_ret
   exact ⟨by rw [HR.out,HR'.out]; rfl,rfl⟩
theorem Ze4 (i : Nat) (hi : i < 16) (w : World) : Calls Ydz 192 #[.int .i64 (i : Int)] w fun e w' => e = .returned (.tuple #[.int .i64 (4 * (i : Int)),.bool true]) ∧ w = w' := by
 have h1 : (i : Int) < 16 := by omega
 go_enter Tryz.func192,Tryz.ntmps192
 go_wp2
 go_ret2
 exact ⟨rfl,rfl⟩
def Vt (x : Int) : Int := Go.bits .and .u64 (x / 2) 8608480567731124087
theorem Zq3 (x : Int) (hx : U64 x) (w : World) : Calls Ydz 194 #[.int .u64 x] w fun e w' => e = .returned (.int .u64 (Vt x)) ∧ w = w' := by
 obtain ⟨h0,h1⟩ := hx
 go_enter Tryz.func194,Tryz.ntmps194
 go_wp2
 go_ret
 exact ⟨rfl,rfl⟩
def Zex (x : Int) (i : Nat) : Int := wrap64 (Go.bits .and .u64 (x / 2 ^ (4 * i)) 15)
theorem Zju (x : Int) (hx : U64 x) (i : Nat) (hi : i < 16) (w : World) : Calls Ydz 193 #[.int .u64 x,.int .i64 (i : Int)] w fun e w' => e = .returned (.int .i64 (Zex x i)) ∧ w = w' := by
 obtain ⟨h0,h1⟩ := hx
 have H := Ydy (Ze4 i hi w)
 go_enter Tryz.func193,Tryz.ntmps193
 go_wp2_with fail
 refine (H.out).mono ?_
 rintro e w' ⟨rfl,rfl⟩
 go_wp2
 go_ret
 exact ⟨rfl,rfl⟩
theorem Zur (x : Int) (hx : U64 x) (i : Nat) (hi : i < 16) (hg : Zex x i = 15) (w : World) : Calls Ydz 153 #[.int .u64 x,.int .i64 (i : Int)] w fun e w' => e = .returned (.tuple #[.int .u64 x,.bool false]) ∧ w = w' := by
 have H := Ydy (Ze4 i hi w)
 have G := Zju x hx i hi w
 rw [hg] at G
 have HG := Ydy G
 clear G hg
 go_enter Tryz.func153,Tryz.ntmps153
 go_wp2_with fail
 refine (H.out).mono ?_
 rintro e w' ⟨rfl,rfl⟩
 go_wp2_with fail
 refine (HG.out).mono ?_
 rintro e w' ⟨rfl,rfl⟩
 go_wp2
 go_ret2
 exact ⟨rfl,rfl⟩
def Zjv (x : Int) (i : Nat) : Int := IntKind.u64.wrap (x + IntKind.u64.wrap (2 ^ (4 * i)))
theorem Zxy (x : Int) (i : Nat) : U64 (Zjv x i) := by unfold Zjv U64; simp only [IntKind.wrap_u64]; omega
theorem Zum (x : Int) : U64 (Vt x) := Zdx _ _ _
theorem Yau (x : Int) (hx : U64 x) (i : Nat) (hi : i < 16) (hg : Zex x i ≠ 15) (w : World) : Calls Ydz 153 #[.int .u64 x,.int .i64 (i : Int)] w fun e w' => e = .returned (.tuple #[.int .u64 (Zjv x i),.bool true]) ∧ w = w' := by
 have H := Ydy (Ze4 i hi w)
 have G := Zju x hx i hi w
 have hb : (Zex x i == 15) = false := beq_eq_false_iff_ne.2 hg
 generalize Zex x i = gv at *
 have HG := Ydy G
 clear G hg
 obtain ⟨h0,h1⟩ := hx
 go_enter Tryz.func153,Tryz.ntmps153
 go_wp2_with fail
 refine (H.out).mono ?_
 rintro e w' ⟨rfl,rfl⟩
 go_wp2_with fail
 refine (HG.out).mono ?_
 rintro e w' ⟨rfl,rfl⟩
 go_wp2
 go_ret2
 exact ⟨rfl,rfl⟩
def J5 (s : Int) : Int := if s = 2 ∨ s = 3 then 3 else 1
theorem Zso (s : Int) (w : World) : Calls Ydz 94 #[.int .i64 s] w fun e w' => e = .returned (.int .i64 (J5 s)) ∧ w = w' := by
 by_cases h2 : s = 2
 ·subst h2
  go_enter Yej,Yeh
  go_wp2
  go_ret
  exact ⟨rfl,rfl⟩
 ·by_cases h3 : s = 3
  ·subst h3
   go_enter Yej,Yeh
   go_wp2
   go_ret
   exact ⟨rfl,rfl⟩
  ·have e : J5 s = 1 := by unfold J5; rw [if_neg]; rintro (h | h) <;> contradiction
   have E := Ydy e
   have b2 : (s == 2) = false := beq_eq_false_iff_ne.2 h2
   have b3 : (s == 3) = false := beq_eq_false_iff_ne.2 h3
   clear e h2 h3
   go_enter Yej,Yeh
   go_wp2
   go_ret
   exact ⟨by rw [E.out]; rfl,rfl⟩
theorem Zcx (s : Int) (w : World) : Calls Ydz 142 #[.int .i64 s] w fun e w' => e = .returned (.int .i64 2) ∧ w = w' := by
 go_enter Tryz.func142,Tryz.ntmps142
 go_wp2
 go_ret
 exact ⟨rfl,rfl⟩
theorem Zk4 (s : Int) (h1 : s ≠ 1) (h3 : s ≠ 3) (w : World) : Calls Ydz 190 #[.int .i64 s,.bool false] w fun e w' => e = .returned (.int .i64 0) ∧ w = w' := by
 have b2 : (s == 1) = false := beq_eq_false_iff_ne.2 h1
 have b3 : (s == 3) = false := beq_eq_false_iff_ne.2 h3
 clear h1 h3
 go_enter Tryz.func190,Tryz.ntmps190
 go_wp2
 go_ret
 exact ⟨rfl,rfl⟩
section
attribute [local go_sem] World.setCell_drew
def Vp (n lo hi : Int) : Int := if hi < (if n < lo then lo else n) then hi else (if n < lo then lo else n)
theorem Zaq (n lo hi : Int) (w : World) : Calls Ydz 57 #[.int .i64 n,.int .i64 lo,.int .i64 hi] w fun e w' => e = .returned (.int .i64 (Vp n lo hi)) ∧ w = w' := by
 go_enter Tryz.func57,Tryz.ntmps57
 go_wp2
 all_goals
  go_ret
  exact ⟨Zoa (by unfold Vp; split <;> split <;> omega),rfl⟩
def loV (c : Int) : Int := if c = 0 then 0 else 1
def hiV (c : Int) : Int := if c = 0 then 0 else c - c / 5
theorem Zk0 (c : Int) (h0 : 0 ≤ c) (h1 : c ≤ 1000) (w : World) : Calls Ydz 58 #[.int .i64 c] w fun e w' => e = .returned (.tuple #[.int .i64 (loV c),.int .i64 (hiV c)]) ∧ w = w' := by
 by_cases hc : c = 0
 ·subst hc
  go_enter Tryz.func58,Tryz.ntmps58
  go_wp2
  go_ret2
  exact ⟨rfl,rfl⟩
 ·have e1 : loV c = 1 := if_neg hc
  have e2 : hiV c = c - c / 5 := if_neg hc
  have E1 := Ydy e1
  have E2 := Ydy e2
  have b : (c == 0) = false := beq_eq_false_iff_ne.2 hc
  clear e1 e2 hc
  go_enter Tryz.func58,Tryz.ntmps58
  go_wp2
  go_ret2
  exact ⟨by rw [E1.out,E2.out]; rfl,rfl⟩
def Jv (c x : Int) : Int := (c - x) - (c - x) / 5
theorem Zme (c x : Int) (h0 : 0 ≤ x) (h1 : x ≤ c) (h2 : c ≤ 1000) (w : World) : Calls Ydz 59 #[.int .i64 c,.int .i64 x] w fun e w' => e = .returned (.agg #[.int .i64 c,.int .i64 x,.int .i64 (Jv c x)]) ∧ Zb (fun _ => False) w w' := by
 go_enter Tryz.func59,Tryz.ntmps59
 go_wp2
 refine bodyPost_ret (v:=.agg #[.int .i64 c,.int .i64 x,.int .i64 (Jv c x)]) (by simp [results,Tryz.results59,go_sem,Jv]) rfl ⟨rfl,?_⟩
 (repeat (first | with_reducible exact Zb.refl _ _ | with_reducible refine Zb.drew ?_ | with_reducible refine Zb.drewN ?_ _ | with_reducible refine Zb.alloc ?_ _ | ((with_reducible refine Zb.setCell ?_ ?_ _); rotate_left; first | exact .inl rfl | exact .inr (Yd5 _) | exact .inl (.inl rfl) | exact .inl (.inr rfl) | exact .inl (.inr (.inl rfl)) | exact .inl (.inr (.inr rfl)) | (focus (right; first | (simp; done) | (simp; omega))))))
theorem Zgj (n lo hi : Int) (h : lo ≤ hi) : lo ≤ Vp n lo hi ∧ Vp n lo hi ≤ hi := by unfold Vp; split <;> split at * <;> omega
theorem Zgi (n lo hi : Int) (h : lo ≤ n) (h2 : n ≤ hi) : Vp n lo hi = n := by unfold Vp; split <;> split at * <;> omega
theorem Zd3 (c : Int) (h0 : 0 ≤ c) : 0 ≤ loV c ∧ loV c ≤ hiV c ∧ hiV c ≤ c := by unfold loV hiV; split <;> omega
def Zbr (c : Int) : Int := Vp (c / 100) (loV c) (hiV c)
theorem Zve (c : Int) (h0 : 0 ≤ c) (h1 : c ≤ 1000) (w : World) : Calls Ydz 32 #[.int .i64 c] w fun e w' => e = .returned (.agg #[.int .i64 c,.int .i64 (Zbr c),.int .i64 (Jv c (Zbr c))]) ∧ Zb (fun _ => False) w w' := by
 have hc := Zgi c 0 4611686018427387903 h0 (by omega)
 have he := Zd3 c h0
 have hw := Zgj (c / 100) (loV c) (hiV c) he.2.1
 have H0 := Ydy (fun W => (by have h := Zaq c 0 4611686018427387903 W; rw [hc] at h; exact h : Calls Ydz 57 #[.int .i64 c,.int .i64 0,.int .i64 4611686018427387903] W fun e w' => e = .returned (.int .i64 c) ∧ W = w'))
 have H1 := Ydy (fun W => Zk0 c h0 h1 W)
 have H2 := Ydy (fun W => Zaq (c / 100) (loV c) (hiV c) W)
 have H3 := Ydy (fun W => Zme c (Zbr c) (by unfold Zbr; omega) (by unfold Zbr; omega) h1 W)
 clear hc hw
 go_enter Tryz.func32,Tryz.ntmps32
 go_wp2_with fail
 refine (H0.out _).mono ?_
 rintro e w1 ⟨rfl,rfl⟩
 go_wp2_with fail
 refine (H1.out _).mono ?_
 rintro e w1 ⟨rfl,rfl⟩
 go_wp2_with fail
 refine (H2.out _).mono ?_
 rintro e w1 ⟨rfl,rfl⟩
 go_wp2_with fail
 refine (H3.out _).mono ?_
 rintro e w1 ⟨rfl,ho⟩
 have k : w1.heap[w.heap.size]? = some (.cells #[.int .i64 0,.int .i64 0,.int .i64 0] 85 (0,0)) := ho.kept (Zh _ _) (fun h => h)
 have k0 := Za (j:=0) k rfl
 have k1 := Za (j:=1) k rfl
 have k2 := Za (j:=2) k rfl
 have q0 := Zc k 0
 have q1 := Zc k 1
 have q2 := Zc k 2
 have hz : w.heap.size < w1.heap.size := Ze k
 have HO := Ydy ho
 clear k ho
 go_wp2
 refine bodyPost_ret (v:=.agg #[.int .i64 c,.int .i64 (Zbr c),.int .i64 (Jv c (Zbr c))]) (by simp [results,Tryz.results32,go_sem,k0,k1,k2]) rfl ⟨rfl,?_⟩
 have o : Zb (fun _ => False) w w1 := ((Zb.refl _ w).alloc _).trans HO.out
 refine o.then (T:=fun b => b = w.heap.size) ?_ (fun i hi h => absurd h (by omega))
 (repeat (first | with_reducible exact Zb.refl _ _ | with_reducible refine Zb.drew ?_ | with_reducible refine Zb.drewN ?_ _ | with_reducible refine Zb.alloc ?_ _ | ((with_reducible refine Zb.setCell ?_ ?_ _); rotate_left; first | exact .inl rfl | exact .inr (Yd5 _) | exact .inl (.inl rfl) | exact .inl (.inr rfl) | exact .inl (.inr (.inl rfl)) | exact .inl (.inr (.inr rfl)) | (focus (right; first | (simp; done) | (simp; omega))))))
def Je (c x n : Int) : Int := x + Vp n (loV c - x) (hiV c - x)
theorem Ze6 (c x n : Int) (hx : loV c ≤ x ∧ x ≤ hiV c) : loV c ≤ Je c x n ∧ Je c x n ≤ hiV c := by
 have := Zgj n (loV c - x) (hiV c - x) (by omega)
 unfold Je; omega
theorem Zlz (c x p n : Int) (h0 : 0 ≤ c) (h1 : c ≤ 1000) (hx : loV c ≤ x ∧ x ≤ hiV c) (w : World) : Calls Ydz 107 #[.agg #[.int .i64 c,.int .i64 x,.int .i64 p],.int .i64 n] w fun e w' => e = .returned (.agg #[.int .i64 c,.int .i64 (Je c x n),.int .i64 (Jv c (Je c x n))]) ∧ Zb (fun _ => False) w w' := by
 have hc := Zgi c 0 4611686018427387903 h0 (by omega)
 have he := Zd3 c h0
 have hxx := Zgi x (loV c) (hiV c) hx.1 hx.2
 have hs := Ze6 c x n hx
 have hcl := Zgj n (loV c - x) (hiV c - x) (by omega)
 have hsx : x + Vp n (loV c - x) (hiV c - x) = Je c x n := rfl
 have H0 := Ydy (fun W => (by have h := Zaq c 0 4611686018427387903 W; rw [hc] at h; exact h : Calls Ydz 57 #[.int .i64 c,.int .i64 0,.int .i64 4611686018427387903] W fun e w' => e = .returned (.int .i64 c) ∧ W = w'))
 have H1 := Ydy (fun W => Zk0 c h0 h1 W)
 have H2 := Ydy (fun W => (by have h := Zaq x (loV c) (hiV c) W; rw [hxx] at h; exact h : Calls Ydz 57 #[.int .i64 x,.int .i64 (loV c),.int .i64 (hiV c)] W fun e w' => e = .returned (.int .i64 x) ∧ W = w'))
 have H4 := Ydy (fun W => Zaq n (loV c - x) (hiV c - x) W)
 have H3 := Ydy (fun W => Zme c (Je c x n) (by omega) (by omega) h1 W)
 have HS := Ydy hsx
 clear hc hxx hsx
 go_enter Tryz.func107,Tryz.ntmps107
 go_wp2_with fail
 refine (H0.out _).mono ?_
 rintro e w1 ⟨rfl,rfl⟩
 go_wp2_with fail
 refine (H1.out _).mono ?_
 rintro e w1 ⟨rfl,rfl⟩
 go_wp2_with fail
 refine (H2.out _).mono ?_
 rintro e w1 ⟨rfl,rfl⟩
 go_wp2_with fail
 refine (H4.out _).mono ?_
 rintro e w1 ⟨rfl,rfl⟩
 go_wp2_with fail
 rw [HS.out]
 refine (H3.out _).mono ?_
 rintro e w1 ⟨rfl,ho⟩
 have k : w1.heap[w.heap.size + 1]? = some (.cells #[.int .i64 0,.int .i64 0,.int .i64 0] 85 (0,0)) := ho.kept (by have := Zh (w.alloc (.cells #[.int .i64 c,.int .i64 x,.int .i64 p] 85)) (.cells #[.int .i64 0,.int .i64 0,.int .i64 0] 85); simpa using this) (fun h => h)
 have k0 := Za (j:=0) k rfl
 have k1 := Za (j:=1) k rfl
 have k2 := Za (j:=2) k rfl
 have q0 := Zc k 0
 have q1 := Zc k 1
 have q2 := Zc k 2
 have hz : w.heap.size + 1 < w1.heap.size := Ze k
 have HO := Ydy ho
 clear k ho
 go_wp2
 refine bodyPost_ret (v:=.agg #[.int .i64 c,.int .i64 (Je c x n),.int .i64 (Jv c (Je c x n))]) (by simp [results,Tryz.results107,go_sem,k0,k1,k2]) rfl ⟨rfl,?_⟩
 have o : Zb (fun _ => False) w w1 := (((Zb.refl _ w).alloc _).alloc _).trans HO.out
 refine o.then (T:=fun b => b = w.heap.size + 1) ?_ (fun i hi h => absurd h (by omega))
 (repeat (first | with_reducible exact Zb.refl _ _ | with_reducible refine Zb.drew ?_ | with_reducible refine Zb.drewN ?_ _ | with_reducible refine Zb.alloc ?_ _ | ((with_reducible refine Zb.setCell ?_ ?_ _); rotate_left; first | exact .inl rfl | exact .inr (Yd5 _) | exact .inl (.inl rfl) | exact .inl (.inr rfl) | exact .inl (.inr (.inl rfl)) | exact .inl (.inr (.inr rfl)) | (focus (right; first | (simp; done) | (simp; omega))))))
end
def Zk {α : Type} : List (Int × α) → Int → Option α
 | [],_ => none
 | (a,v) :: r,k => if a = k then some v else Zk r k
def Xe {α : Type} : List (Int × α) → Int → List (Int × α)
 | [],_ => []
 | (a,v) :: r,k => if a = k then Xe r k else (a,v) :: Xe r k
def Yn {α : Type} (l : List (Int × α)) (k : Int) (v : α) : List (Int × α) := (k,v) :: Xe l k
def Yo {α : Type} (l : List (Int × α)) : Prop := (l.map (·.1)).Nodup
theorem Xp (l : List (Int × α)) (k i : Int) : Zk (Xe l k) i = if i = k then none else Zk l i := by
 induction l with
 | nil => simp [Xe,Zk]
 | cons p r ih =>
  obtain ⟨a,v⟩ := p
  by_cases h : a = k
  ·subst h
   rw [show Xe ((a,v) :: r) a = Xe r a from by simp [Xe],ih]
   by_cases hi : i = a
   ·simp [hi]
   ·rw [if_neg hi,if_neg hi,Zk,if_neg (fun e => hi e.symm)]
  ·rw [show Xe ((a,v) :: r) k = (a,v) :: Xe r k from by simp [Xe,h],Zk,ih]
   by_cases hi : a = i
   ·subst hi; simp [h,Zk]
   ·rw [if_neg hi,Zk,if_neg hi]
theorem Yv (l : List (Int × α)) (k i : Int) (v : α) : Zk (Yn l k v) i = if i = k then some v else Zk l i := by
 unfold Yn
 rw [Zk,Xp]
 by_cases h : i = k
 ·subst h; simp
 ·rw [if_neg (fun e => h e.symm),if_neg h,if_neg h]
theorem Zhx {α : Type} {l : List (Int × α)} {k : Int} : Zk l k = none ↔ k ∉ l.map (·.1) := by
 induction l with
 | nil => simp [Zk]
 | cons p r ih =>
  obtain ⟨a,u⟩ := p
  rw [Zk]
  by_cases h : a = k
  ·subst h; simp
  ·rw [if_neg h,ih]; simp [Ne.symm h]
theorem Zqd {k : Int} : (Zk l k).isSome = true ↔ k ∈ l.map (·.1) := by
 have := @Zhx α l k
 cases h : Zk l k with
 | none => simp [this.1 h]
 | some v =>
  have h2 : ¬ (Zk l k = none) := by rw [h]; simp
  rw [this] at h2
  simpa using h2
theorem Zhw (l : List (Int × α)) (k : Int) : (Xe l k).map (·.1) = (l.map (·.1)).filter (fun i => decide (i ≠ k)) := by
 induction l with
 | nil => rfl
 | cons p r ih =>
  obtain ⟨a,u⟩ := p
  by_cases h : a = k
  ·subst h; simpa [Xe] using ih
  ·simpa [Xe,h] using ih
theorem Yo.del (h : Yo l) (k : Int) : Yo (Xe l k) := by
 unfold Yo at *; rw [Zhw]; exact h.filter _
theorem Yo.put (h : Yo l) (k : Int) (v : α) : Yo (Yn l k v) := by
 have := h.del k
 unfold Yo Yn at *
 refine List.nodup_cons.2 ⟨?_,this⟩
 show k ∉ (Xe l k).map (·.1)
 rw [Zhw]; simp
theorem Zqa {k : Int} (h : Zk l k = none) : Xe l k = l := by
 induction l with
 | nil => rfl
 | cons p r ih =>
  obtain ⟨a,u⟩ := p
  rw [Zk] at h
  split at h
  ·cases h
  ·rename_i e; rw [Xe,if_neg e,ih h]
theorem Qk (hn : Yo l) (k : Int) : (Xe l k).length = if (Zk l k).isSome then l.length - 1 else l.length := by
 induction l with
 | nil => simp [Xe,Zk]
 | cons p r ih =>
  obtain ⟨a,u⟩ := p
  obtain ⟨h1,h2⟩ := List.nodup_cons.1 hn
  by_cases h : a = k
  ·subst h
   have : Zk r a = none := Zhx.2 h1
   rw [show Xe ((a,u) :: r) a = Xe r a from by simp [Xe],Zqa this,Zk,if_pos rfl]
   simp
  ·rw [show Xe ((a,u) :: r) k = (a,u) :: Xe r k from by simp [Xe,h],Zk,if_neg h,Yec,ih h2]
   split
   ·rename_i hs
    have : 0 < r.length := by
     cases r with
     | nil => simp [Zk] at hs
     | cons _ _ => simp
    simp only [Yec]; omega
   ·simp
theorem Xk (hn : Yo l) (k : Int) (v : α) : (Yn l k v).length = if (Zk l k).isSome then l.length else l.length + 1 := by
 unfold Yn
 rw [Yec,Qk hn]
 split
 ·rename_i hs
  have : 0 < l.length := by
   cases l with
   | nil => simp [Zk] at hs
   | cons _ _ => simp
  omega
 ·rfl
structure Sk where
 width : Nat
 samples : Int
 rows : List (List Int)
deriving DecidableEq
def Zob (row : List Int) (p : Nat) : List Int × Bool :=
 if Zex (row.getD (p / 16) 0) (p % 16) = 15 then (row,false) else (row.set (p / 16) (Zjv (row.getD (p / 16) 0) (p % 16)),true)
def Jo (h : Int) (wd : Nat) (rows : List (List Int)) : Nat → List (List Int) × Bool
 | 0 => (rows,false)
 | k + 1 =>
  let p := Jo h wd rows k
  let q := Zob (p.1.getD k []) (Ye h k wd)
  (p.1.set k q.1,p.2 || q.2)
def K7 (seed key : Int) (s : Sk) : Sk × Bool :=
 let p := Jo (Yf seed key) s.width s.rows 4
 if p.2 then
  if 10 * (s.width : Int) ≤ s.samples + 1 then ({ s with rows := p.1.map (fun r => r.map Vt),samples := (s.samples + 1) / 2 },true)
  else ({ s with rows := p.1,samples := s.samples + 1 },false)
 else ({ s with rows := p.1 },false)
def Zm3 (h : Int) (wd : Nat) (rows : List (List Int)) : Nat → Int
 | 0 => 16
 | k + 1 =>
  let p := Ye h k wd
  let g := Zex ((rows.getD k []).getD (p / 16) 0) (p % 16)
  if g < Zm3 h wd rows k then g else Zm3 h wd rows k
def Zbn (seed key : Int) (s : Sk) : Int := Zm3 (Yf seed key) s.width s.rows 4
def Zgf (x : Int) (i : Nat) : Int := Go.bits .and .u64 (x / 2 ^ i) 1
def orV (x : Int) (i : Nat) : Int := Go.bits .or .u64 x (IntKind.u64.wrap (2 ^ i))
def onV (dw : List Int) (p : Nat) : Bool := decide (Zgf (dw.getD (p / 64) 0) (p % 64) ≠ 0)
def Qa (seed key : Int) (dw : List Int) : Bool := onV dw (Ye (Yf seed key) 0 (64 * dw.length)) && onV dw (Ye (Yf seed key) 1 (64 * dw.length))
def J3 (dw : List Int) (p : Nat) : List Int := dw.set (p / 64) (orV (dw.getD (p / 64) 0) (p % 64))
def Ke (seed key : Int) (dw : List Int) : List Int :=
 J3 (J3 dw (Ye (Yf seed key) 0 (64 * dw.length))) (Ye (Yf seed key) 1 (64 * dw.length))
structure Fi where
 seed : Int
 sk : Sk
 dw : List Int
deriving DecidableEq
def Kf (f : Fi) (key : Int) : Fi :=
 if Qa f.seed key f.dw then
  let q := K7 f.seed key f.sk
  { f with sk := q.1,dw := if q.2 then f.dw.map (fun _ => 0) else Ke f.seed key f.dw }
 else { f with dw := Ke f.seed key f.dw }
def Zbg (f : Fi) (key : Int) : Int := if Qa f.seed key f.dw then Go.RowKit.wrap64 (Zbn f.seed key f.sk + 1) else Zbn f.seed key f.sk
def Za9 (f : Fi) (a b : Int) : Bool := decide (Zbg f b < Zbg f a)
structure Cl where
 hits : Int
 misses : Int
 last : Int
 step : Int
deriving DecidableEq
def Xl (c : Int) : Int := if c / 16 < 1 then 1 else c / 16
def Qw (n : Int) : Int := n.tdiv 100 * 98 + (n.tmod 100 * 98).tdiv 100
def Jw (c : Cl) : Int := if c.hits = 0 then 0 else c.hits * 65536 / (c.hits + c.misses)
def Yw (c : Cl) (hit : Bool) : Cl := if hit then { c with hits := c.hits + 1 } else { c with misses := c.misses + 1 }
def Zah (c : Cl) : Int := if Jw c < c.last then -c.step else c.step
def Zc1 (c : Cl) (cap : Int) : Cl :=
 { hits := 0,misses := 0,last := Jw c,step := if Jw c - c.last ≥ 3277 ∨ -(Jw c - c.last) ≥ 3277 then (if Zah c < 0 then -Xl cap else Xl cap) else Qw (Zah c) }
abbrev Nw := Int × Int
def Xq : List Nw → Int
 | [] => 0
 | t :: r => t.2 + Xq r
structure Rw where
 r0 : List Nw
 r1 : List Nw
 r2 : List Nw
deriving DecidableEq
def Rw.get (r : Rw) : Nat → List Nw
 | 0 => r.r0
 | 1 => r.r1
 | _ => r.r2
def Rw.set (r : Rw) (k : Nat) (l : List Nw) : Rw :=
 match k with
 | 0 => { r with r0 := l }
 | 1 => { r with r1 := l }
 | _ => { r with r2 := l }
def Va (id : Int) (l : List Nw) : List Nw := l.filter (fun t => decide (t.1 ≠ id))
def Rw.out (r : Rw) (id : Int) : Rw := ⟨Va id r.r0,Va id r.r1,Va id r.r2⟩
def Rw.total (r : Rw) : Int := Xq r.r0 + Xq r.r1 + Xq r.r2
def Rw.count (r : Rw) : Nat := r.r0.length + r.r1.length + r.r2.length
def Rw.push (r : Rw) (k : Nat) (t : Nw) : Rw := r.set k (r.get k ++ [t])
def Qd (id : Int) : List Nw → Option Int
 | [] => none
 | t :: r => if t.1 = id then some t.2 else Qd id r
def Rw.of (r : Rw) (id : Int) : Option (Nat × Int) :=
 match Qd id r.r0 with
 | some v => some (0,v)
 | none =>
  match Qd id r.r1 with
  | some v => some (1,v)
  | none =>
   match Qd id r.r2 with
   | some v => some (2,v)
   | none => none
def wre (id v : Int) (l : List Nw) : List Nw := l.map (fun t => if t.1 = id then (t.1,v) else t)
def Rw.re (r : Rw) (id v : Int) : Rw := ⟨wre id v r.r0,wre id v r.r1,wre id v r.r2⟩
def Xu (most : Int) : List Nw → List Nw × List Nw
 | [] => ([],[])
 | t :: r => if most < Xq (t :: r) then (t :: (Xu most r).1,(Xu most r).2) else ([],t :: r)
def Rw.pass (r : Rw) (k : Nat) (most : Int) : Rw := (r.set k (Xu most (r.get k)).2).set 1 (r.r1 ++ (Xu most (r.get k)).1)
structure Pol where
 cap : Int
 per : Int
 fi : Fi
 rw : Rw
 keys : List (Int × Int)
 win : Int
 prot : Int
 cl : Cl
deriving DecidableEq
def Pol.count (p : Pol) (hit : Bool) : Pol :=
 let c := Yw p.cl hit
 if p.per ≤ c.hits + c.misses then
  let win := Je p.cap p.win (Zah c)
  let prot := Jv p.cap win
  { p with cl := Zc1 c p.cap,win := win,prot := prot,rw := p.rw.pass 2 prot }
 else { p with cl := c }
def Yi (l : List Nw) : Int := match l with | [] => 0 | t :: _ => t.1
def Jm (l : List Nw) : Int := match l.getLast? with | none => 0 | some t => t.1
def Kr (p : Pol) (id : Int) : Int := (Zk p.keys id).getD 0
def Pol.next (p : Pol) : Int :=
 if Yi p.rw.r1 = 0 then (if 0 < p.rw.r2.length then Yi p.rw.r2 else Yi p.rw.r0)
 else if Yi p.rw.r1 = Jm p.rw.r1 then Yi p.rw.r1
 else if Za9 p.fi (Kr p (Jm p.rw.r1)) (Kr p (Yi p.rw.r1)) then Yi p.rw.r1 else Jm p.rw.r1
def Pol.drop (p : Pol) (id : Int) : Pol := { p with rw := p.rw.out id,keys := Xe p.keys id }
def Pol.settleN (p : Pol) : Nat → Pol × List Int
 | 0 => (p,[])
 | n + 1 => if p.cap < p.rw.total then ((p.drop p.next).settleN n).map id (p.next :: ·) else (p,[])
def Pol.settle (p : Pol) : Pol × List Int :=
 let q := { p with rw := p.rw.pass 0 p.win }
 q.settleN q.rw.count
def Pol.read (p : Pol) (id : Int) : Pol :=
 let p1 := { p with fi := Kf p.fi (Kr p id) }
 match p1.rw.of id with
 | none => p1.count true
 | some (k,v) =>
  if k = 1 then ({ p1 with rw := ((p1.rw.out id).push 2 (id,v)).pass 2 p1.prot } : Pol).count true
  else ({ p1 with rw := (p1.rw.out id).push k (id,v) } : Pol).count true
structure Ev where
 d : Int
 n : Int
 k : Int
 w : Int
deriving DecidableEq
def Pol.step (p : Pol) (e : Ev) : Pol × List Int :=
 if e.d = 1 then
  let p1 := ({ p with fi := Kf p.fi e.k } : Pol).count false
  ({ p1 with rw := p1.rw.push 0 (e.n,e.w),keys := Yn p1.keys e.n e.k } : Pol).settle
 else if (Zk p.keys e.n).isSome then
  if e.d = 3 then (({ p with rw := p.rw.re e.n e.w } : Pol).read e.n).settle
  else if e.d = 2 then (p.read e.n,[])
  else (p.drop e.n,[])
 else (p,[])
def Pol.play (p : Pol) : List Ev → Pol × List Int
 | [] => (p,[])
 | e :: r => let q := p.step e; ((q.1.play r).1,q.2 ++ (q.1.play r).2)
def Yt (n : Int) (least : Int) (d : Nat) : Int := upV n d least
def Xn (cap seed : Int) : Pol :=
 let n := if cap < 1 then 1 else cap
 let wd := (Yt n 16 12).toNat
 { cap := cap,per := 10 * n,fi := ⟨seed,⟨wd,0,Yd4 4 (Yd4 (wd / 16) 0)⟩,Yd4 (wd / 8) 0⟩,rw := ⟨[],[],[]⟩,keys := [],win := Zbr cap,prot := Jv cap (Zbr cap),cl := ⟨0,0,0,Xl cap⟩ }
structure Ent where
 k : Int
 v : Int
 w : Int
 n : Int
deriving DecidableEq
structure Com where
 d : Int
 k : Int
 v : Int
 h : Bool
deriving DecidableEq
structure Op where
 d : Int
 k : Int
 v : Int
 w : Int
deriving DecidableEq
structure Rec where
 t : Int
 o : Int
 a : Int
 c : Com
 e : Int
deriving DecidableEq
structure Y8 where
 size : Nat
 q : List Int
deriving DecidableEq
structure Wr where
 size : Nat
 res : Nat
 q : List Ev
deriving DecidableEq
structure Sh where
 seed : Int
 n : Nat
 ent : List (Int × Ent)
 given : Nat
 keys : List (Int × Int)
deriving DecidableEq
structure Th where
 prog : List Op
 op : Nat
 ph : Int
 com : Com
 err : Int
 node : Int
 back : Int
 vic : List Int
deriving DecidableEq
structure St where
 cap : Int
 sh : Sh
 pol : Pol
 seed : Int
 rings : List Y8
 wr : Wr
 status : Int
 locks : List (Int × Bool)
 keys : List (Int × Int)
 recs : List Rec
 evs : List Ev
 ths : List Th
deriving DecidableEq
def Sh.shard (s : Sh) (key : Int) : Nat := Ye (Yf s.seed key) 2 s.n
def Sh.put (s : Sh) (o : Op) : Sh :=
 match Zk s.ent o.k with
 | some e => { s with ent := Yn s.ent o.k ⟨o.k,o.v,o.w,e.n⟩ }
 | none => { s with ent := Yn s.ent o.k ⟨o.k,o.v,o.w,(s.given : Int) + 1⟩,given := s.given + 1,keys := Yn s.keys ((s.given : Int) + 1) o.k }
def Sh.remove (s : Sh) (key : Int) : Sh :=
 match Zk s.ent key with
 | some e => { s with ent := Xe s.ent key,keys := Xe s.keys e.n }
 | none => s
def Sh.evict (s : Sh) (node : Int) : Sh × Option Ent :=
 match Zk s.keys node with
 | none => (s,none)
 | some key => (s.remove key,Zk s.ent key)
def Xf (r : Y8) (v : Int) : Y8 × Bool := if r.q.length = r.size then (r,false) else ({ r with q := r.q ++ [v] },true)
def Y3 : List Y8 → List Y8 × Option Int
 | [] => ([],none)
 | r :: l =>
  match r.q with
  | v :: q => ({ r with q := q } :: l,some v)
  | [] => (r :: (Y3 l).1,(Y3 l).2)
def Qj (l : List Y8) : Nat := (l.map (fun r => r.q.length)).sum
def Zl (s : St) (i : Nat) (t : Th) : St := { s with ths := s.ths.set i t }
def Yk (s : St) (i : Nat) (t : Th) (ph : Int) : St := Zl s i { t with ph := ph }
def Z9 (s : St) (r : Rec) : St := { s with recs := s.recs ++ [r] }
def Kc (w cap : Int) : Int := if w < 0 then 1 else if cap < w then 4 else 0
def Zag (s : St) (i : Nat) (t : Th) : St :=
 match t.prog[t.op]? with
 | none => s
 | some o =>
  let c : Com := ⟨o.d,o.k,if o.d = 2 then o.v else 0,false⟩
  let er := if o.d = 2 then Kc o.w s.cap else 0
  let s1 := Z9 s ⟨i,t.op,1,c,0⟩
  if er ≠ 0 then Yk s1 i { t with com := c,err := er } 16
  else if o.d = 1 then Yk s1 i { t with com := c,err := er } 3
  else if o.d = 2 ∨ o.d = 3 then Yk s1 i { t with com := c,err := er } 1
  else if o.d = 4 then Yk s1 i { t with com := c,err := er } 9
  else Yk s1 i { t with com := c,err := 1 } 16
def Zfx (s : St) (i : Nat) (t : Th) : St :=
 match t.prog[t.op]? with
 | none => s
 | some o =>
  let e := Zk s.sh.ent o.k
  if o.d = 1 then
   let c : Com := { t.com with v := (e.map (·.v)).getD 0,h := e.isSome }
   Yk (Z9 s ⟨i,t.op,2,c,0⟩) i { t with com := c,node := (e.map (·.n)).getD 0 } 5
  else if o.d = 2 then
   let s1 := match e with
    | some e => { s with sh := s.sh.put o,wr := { s.wr with res := s.wr.res - 1,q := s.wr.q ++ [⟨3,e.n,o.k,o.w⟩] } }
    | none => { s with sh := s.sh.put o,keys := Yn s.keys ((s.sh.given : Int) + 1) o.k,wr := { s.wr with res := s.wr.res - 1,q := s.wr.q ++ [⟨1,(s.sh.given : Int) + 1,o.k,o.w⟩] } }
   Yk (Z9 s1 ⟨i,t.op,2,t.com,0⟩) i t 5
  else
   let c : Com := { t.com with v := (e.map (·.v)).getD 0,h := e.isSome }
   let s1 := match e with
    | some e => { s with sh := s.sh.remove o.k,wr := { s.wr with res := s.wr.res - 1,q := s.wr.q ++ [⟨4,e.n,o.k,e.w⟩] } }
    | none => { s with wr := { s.wr with res := s.wr.res - 1 } }
   Yk (Z9 s1 ⟨i,t.op,2,c,0⟩) i { t with com := c } 5
def Yr (s : St) (k : Nat) : St := { s with locks := s.locks.set k (0,false) }
def V5 (s : St) (i k : Nat) : St := { s with locks := s.locks.set k ((i : Int),true) }
def Xr (s : St) (k : Nat) : Bool := (s.locks.getD k (0,true)).2
def Zc2 (s : St) (i : Nat) (t : Th) : St :=
 let s1 := Yr s (s.sh.shard t.com.k)
 if t.com.d = 2 then Yk s1 i t 7
 else if t.com.h = false then Yk s1 i t 16
 else if t.com.d = 1 then Yk s1 i t 6
 else Yk s1 i t 7
def Zbb (s : St) (i : Nat) (t : Th) (back : Int) : St := Yk { s with status := 2 } i { t with back := back } 10
def Zhh (s : St) (i : Nat) (t : Th) (back : Int) : St :=
 if Xr s s.sh.n then Yk s i t back else Zbb (V5 s i s.sh.n) i t back
def J7 (s : St) (i : Nat) (t : Th) (k : Nat) (ph : Int) : St :=
 if Xr s k then s else Yk (V5 s i k) i t ph
def K3 (s : St) (i : Nat) (t : Th) : St := if t.vic = [] then Yk s i t 11 else Yk s i t 12
def Yj (s : St) (e : Ev) : St := { s with evs := s.evs ++ [e],pol := (s.pol.step e).1 }
def Zft (s : St) (i : Nat) (t : Th) : St :=
 match s.wr.q with
 | [] => Yk s i t 15
 | e :: q => K3 (Yj { s with wr := { s.wr with q := q } } e) i { t with vic := (s.pol.step e).2 }
def Jy (s : St) (t : Th) : Int := (Zk s.keys (t.vic.headD 0)).getD 0
def Zew (s : St) (i : Nat) (t : Th) : St :=
 match s.sh.evict (t.vic.headD 0) with
 | (_,none) => Yk s i t 14
 | (sh,some e) => Yk (Z9 { s with sh := sh } ⟨i,-1,2,⟨4,e.k,e.v,true⟩,0⟩) i t 14
def Zkz (s : St) (i : Nat) (t : Th) : St :=
 if 0 < Qj s.rings ∨ 0 < s.wr.q.length ∨ s.status = 3 then Yk { s with status := 2 } i t 10
 else Yk (Yr { s with status := 0 } s.sh.n) i t t.back
def Zdo (s : St) (i : Nat) (t : Th) : St :=
 match Y3 s.rings with
 | (_,none) => Yk s i t 11
 | (rs,some v) => Yj { s with rings := rs } ⟨2,v,0,0⟩
def Jd (s : St) (i : Nat) : Nat := Ye (Yf s.seed i) 0 s.rings.length
def Zn1 (s : St) (i : Nat) (t : Th) : St :=
 let r := s.rings.getD (Jd s i) ⟨0,[]⟩
 if (Xf r t.node).2 then Yk { s with rings := s.rings.set (Jd s i) (Xf r t.node).1 } i t 16 else Yk s i t 8
def Yu (s : St) (i : Nat) (t : Th) : St :=
 if t.ph = 0 then Zag s i t
 else if t.ph = 1 then (if s.wr.q.length + s.wr.res = s.wr.size then Yk s i t 2 else Yk { s with wr := { s.wr with res := s.wr.res + 1 } } i t 3)
 else if t.ph = 2 then Zhh s i t 1
 else if t.ph = 3 then J7 s i t (s.sh.shard t.com.k) 4
 else if t.ph = 4 then Zfx s i t
 else if t.ph = 5 then Zc2 s i t
 else if t.ph = 6 then Zn1 s i t
 else if t.ph = 7 then Yk { s with status := J5 s.status } i t 8
 else if t.ph = 8 then Zhh s i t 16
 else if t.ph = 9 then (if Xr s s.sh.n then s else Zbb (V5 s i s.sh.n) i t 16)
 else if t.ph = 16 then Zl (Z9 s ⟨i,t.op,3,t.com,t.err⟩) i { t with op := t.op + 1,ph := 0 }
 else if t.ph = 10 then Zdo s i t
 else if t.ph = 11 then Zft s i t
 else if t.ph = 12 then J7 s i t (s.sh.shard (Jy s t)) 13
 else if t.ph = 13 then Zew s i t
 else if t.ph = 14 then K3 (Yr s (s.sh.shard (Jy s t))) i { t with vic := t.vic.drop 1 }
 else Zkz s i t
def step (s : St) (i : Nat) : St :=
 match s.ths[i]? with
 | none => s
 | some t => Yu s i t
def Xm (s : St) : List Bool := s.ths.map (fun t => decide (t.op < t.prog.length))
def Zbu (left : List Bool) (first : Nat) : Nat → Option Nat
 | 0 => none
 | n + 1 => if left.getD ((first + (left.length - (n + 1))) % left.length) false then some ((first + (left.length - (n + 1))) % left.length) else Zbu left first n
def Ql (pick : Int) (left : List Bool) : Option Nat :=
 if left.length = 0 then none else Zbu left (pick % (left.length : Int)).toNat left.length
def Qt (l : List Int) (s : St) (n : Nat) : Nat → St × Nat
 | 0 => (s,n)
 | k + 1 =>
  match Ql (if l.length = 0 then 0 else l.getD (n % l.length) 0) (Xm s) with
  | none => (s,n)
  | some i => Qt l (step s i) (n + 1) k
structure Cfg where
 cap : Int
 seed : Int
 shards : Int
 stripes : Int
 ring : Int
 writes : Int
deriving DecidableEq
def Xh (c : Cfg) (ps : List (List Op)) : St :=
 let cap := if c.cap < 0 then 0 else c.cap
 let n := (Yt c.shards 1 6).toNat
 { cap := cap,sh := ⟨c.seed,n,[],0,[]⟩,pol := Xn cap c.seed,seed := c.seed,rings := Yd4 (Yt c.stripes 1 6).toNat ⟨(Yt c.ring 1 12).toNat,[]⟩,wr := ⟨(Yt c.writes 1 12).toNat,0,[]⟩,status := 0,locks := Yd4 (n + 1) (0,false),keys := [],recs := [],evs := [],ths := ps.map fun p => ⟨p,0,0,⟨0,0,0,false⟩,0,0,0,[]⟩ }
structure Qq where
 t : Int
 o : Int
 f : Int
 a : Int
 r : Int
deriving DecidableEq
structure Rd where
 at_ : List (Int × (Rec × Nat))
 calls : List Qq
deriving DecidableEq
def Zf0 (r : Rec) : Bool := decide (r.o = -1 ∧ r.a = 2 ∧ r.c.d = 4 ∧ r.e = 0)
def Zbd (x : Rd) (r : Rec) (pl : Int) : Option Rd :=
 let ok := match Zk x.at_ r.t with
  | none => decide (r.o = 0)
  | some o => decide (o.1.a = 3 ∧ r.o = o.1.o + 1)
 if ok && decide (r.e = 0) then some ⟨Yn x.at_ r.t (r,x.calls.length),x.calls ++ [⟨r.t,r.o,pl,-1,-1⟩]⟩ else none
def Zab (x : Rd) (r : Rec) (pl : Int) : Option Rd :=
 match Zk x.at_ r.t with
 | none => none
 | some (last,k) =>
  if last.a = 3 ∨ r.o ≠ last.o ∨ r.c.d ≠ last.c.d ∨ r.c.k ≠ last.c.k then none
  else if r.a = 2 then
   if last.a = 1 ∧ r.e = 0 then some ⟨Yn x.at_ r.t (r,k),x.calls.modify k (fun c => { c with a := pl })⟩ else none
  else if r.a = 3 then
   if last.a = 1 ∨ (r.c = last.c ∧ r.e = 0) then some ⟨Yn x.at_ r.t (r,k),x.calls.modify k (fun c => { c with r := pl })⟩ else none
  else none
def Zck (x : Rd) (r : Rec) (pl : Int) : Option Rd :=
 if r.t < 0 ∨ 64 ≤ r.t then none
 else if r.o < 0 then (if Zf0 r then some x else none)
 else if r.a = 1 then Zbd x r pl
 else Zab x r pl
def Xa (l : List Rec) : Nat → Option Rd
 | 0 => some ⟨[],[]⟩
 | k + 1 =>
  match Xa l k with
  | none => none
  | some x => Zck x (l.getD k ⟨0,0,0,⟨0,0,0,false⟩,0⟩) k
def Zes (l : List Rec) : Option (List Qq) := (Xa l l.length).map (·.calls)
def J4 (l : List Rec) : Bool := (Zes l).isSome
def Z8 (l : List Rec) : List Com := if J4 l then (l.filter (fun r => decide (r.a = 2))).map (·.c) else []
def Qb (l : List Com) : List Int := (l.filter (fun c => decide (c.d = 4))).map (·.k)
def Zec (s : List (Int × Int)) (c : Com) : Option Com :=
 if c.d = 2 then some ⟨2,c.k,c.v,false⟩
 else if c.d = 1 ∨ c.d = 3 then some ⟨c.d,c.k,(Zk s c.k).getD 0,(Zk s c.k).isSome⟩
 else if c.d = 4 ∧ (Zk s c.k).isSome then some ⟨4,c.k,(Zk s c.k).getD 0,true⟩
 else none
def doC (s : List (Int × Int)) (c : Com) : List (Int × Int) :=
 if c.d = 2 then Yn s c.k c.v else if c.d = 3 ∨ c.d = 4 then Xe s c.k else s
def Vv : List (Int × Int) → List Com → Nat
 | _,[] => 0
 | s,c :: l => if Zec s c = some c then Vv (doC s c) l + 1 else 0
def Zch (l : List Rec) : Bool := J4 l && decide (Vv [] (Z8 l) = (Z8 l).length) && decide ((Qb (Z8 l)).length = 0)
end Go.Proofs.YtdkhbegheognnaaGreatDoor.W

/- Part of the proof of TopEvicts, joined by a program of the session: Mcz. -/
import Derived.Test.YtdkhbegheognnaaGreatDoorJ22
import Derived.Deep.Slices
import Derived.Deep.Fields
import Derived.ChangeSame
import Derived.Lib.SmallJoins
import Derived.SizedLaws
namespace Go.Proofs.YtdkhbegheognnaaGreatDoor.W
open Go Go.Joins Go.ChangeShapes Go.WideShapes Go.RowKit Go.Maps Go.Deep
open _root_.Go.Proofs.Tryz renaming underlying3 → Ydz, prog → Yd0, underlying24 → Yd5, underlying42 → Yd8
open _root_.List renaming getElem?_eq_getElem → Yd1, range → Yd2, mem_iff_getElem? → Yd3, mem_cons → Yd4, getElem?_eq_none → Yd6, length_range → Yd7
set_option maxHeartbeats 4000000
set_option maxRecDepth 100000
section
variable {H : Type} {enc : TypeId × Value → H} {P : Program} {w : World} {base : Nat} {spare : Nat → Bool} {held : Bool}
theorem Zeh {t e : TypeId} {fs : Array Field} {fuel : Nat} {cs : List Value} {x : DataW H × List MemPlace} (ht : P.underlying t = some (.slice e)) (he : P.underlying e = some (.struct fs))
  (hone : oneCellFields P fs = true) (hC : P.cellsOf e = fs.size) (h : DataW.trod enc P w base spare held fuel t cs = some x) :
  (cs = [.slice none 0 0] ∧ x = (.nil,[])) ∨
  ∃ (a : Addr) (len cap m : Nat) (D : Nat → DataW H) (Pl : Nat → List MemPlace),cs = [.slice (some a) len cap] ∧ base ≤ a.block ∧ len ≤ cap ∧ cap ≤ maxLen ∧ m = (if spare a.block then cap else len) ∧
   x = (.slice ((Yd2 len).map D) ((Yd2 (m - len)).map fun j => D (len + j)),MemPlace.row a (m * fs.size) ++ (Yd2 m).flatMap Pl) ∧
   ∀ i,i < m → ∃ (ys : List (DataW H × List MemPlace)) (n : Nat),D i = .agg (ys.map (·.1)) ∧ Pl i = ys.flatMap (·.2) ∧ ys.length = fs.size ∧
    ∀ (j : Nat) (f : Field),fs[j]? = some f → ∃ (v : Value) (y : DataW H × List MemPlace),w.cell? (a.add (i * fs.size + j)) = some v ∧ ys[j]? = some y ∧ DataW.trod enc P w base spare held n f.type [v] = some y := by
 rcases open_slice ht h with h0 | ⟨a,len,cap,m,n,D,Pl,hcs,hb,hl,hm,hmm,hx,hi⟩
 ·exact .inl h0
 ·refine .inr ⟨a,len,cap,m,D,Pl,hcs,hb,hl,hm,hmm,by rw [hC] at hx; exact hx,fun i him => ?_⟩
  obtain ⟨cs',hc,ht'⟩ := hi i him
  rw [hC] at hc
  obtain ⟨ys,n',hn',hy,hlen,hyl,hf⟩ := DataW.trod_struct he ht'
  obtain ⟨_,hcl,hat⟩ := World.cells?_some hc
  simp only [Prod.mk.injEq] at hy
  refine ⟨ys,n',hy.1,hy.2,hyl,fun j f hj => ?_⟩
  obtain ⟨ho,hk⟩ := hone_of hone j f hj
  have hjl : j < fs.size := (Array.getElem?_eq_some_iff.1 hj).1
  have hcell := hat j hjl
  have hv : cs'[j]? = some (cs'[j]'(by omega)) := Yd1 (by omega)
  have h1 := hf j f hj
  rw [ho,hk] at h1
  have hone' : (cs'.drop j).take 1 = [cs'[j]'(by omega)] := by
   rw [List.drop_eq_getElem_cons (by omega)]
   rfl
  rw [hone'] at h1
  have hys : ys[j]? = some (ys[j]'(by omega)) := Yd1 (by omega)
  refine ⟨_,_,?_,hys,h1.trans hys⟩
  rw [← Go.Deep.add_add,hcell,hv]
end
section
variable {H : Type} {enc : TypeId × Value → H} {P : Program} {w : World} {base : Nat} {spare : Nat → Bool} {held : Bool}
theorem Zrg {r : Reach} {b0 : Nat} {t : TypeId} {f0 f1 f2 f3 f4 f5 : Field} {v : Value} {d : DataW H} {p : List MemPlace} (hs : P.underlying t = some (.struct #[f0,f1,f2,f3,f4,f5])) (hone : oneCellFields P #[f0,f1,f2,f3,f4,f5] = true) (hC : P.cellsOf t = 6)
  (hv : Value.okWide P w r b0 t v) (h : DataW.Trod enc P w base spare held t v d p) :
  ∃ (v0 v1 v2 v3 v4 v5 : Value) (y0 y1 y2 y3 y4 y5 : DataW H × List MemPlace) (n : Nat),v = .agg #[v0,v1,v2,v3,v4,v5] ∧ d = .agg [y0.1,y1.1,y2.1,y3.1,y4.1,y5.1] ∧ p = y0.2 ++ (y1.2 ++ (y2.2 ++ (y3.2 ++ (y4.2 ++ y5.2)))) ∧
   DataW.trod enc P w base spare held n f0.type [v0] = some y0 ∧ DataW.trod enc P w base spare held n f1.type [v1] = some y1 ∧ DataW.trod enc P w base spare held n f2.type [v2] = some y2 ∧ DataW.trod enc P w base spare held n f3.type [v3] = some y3 ∧ DataW.trod enc P w base spare held n f4.type [v4] = some y4 ∧ DataW.trod enc P w base spare held n f5.type [v5] = some y5 := by
 obtain ⟨cs,rfl,hsz⟩ := okWide_struct hs hv
 obtain ⟨l⟩ := cs
 match l,hsz.trans hC with
 | [c0,c1,c2,c3,c4,c5],_ =>
  obtain ⟨fuel,hf⟩ := h
  obtain ⟨xs,n,_,hx,_,hlen,hg⟩ := DataW.trod_struct hs hf
  obtain ⟨o0,k0⟩ := hone_of hone 0 f0 rfl
  obtain ⟨o1,k1⟩ := hone_of hone 1 f1 rfl
  obtain ⟨o2,k2⟩ := hone_of hone 2 f2 rfl
  obtain ⟨o3,k3⟩ := hone_of hone 3 f3 rfl
  obtain ⟨o4,k4⟩ := hone_of hone 4 f4 rfl
  obtain ⟨o5,k5⟩ := hone_of hone 5 f5 rfl
  match xs,hlen with
  | [y0,y1,y2,y3,y4,y5],_ =>
   simp only [Prod.mk.injEq] at hx
   exact ⟨c0,c1,c2,c3,c4,c5,y0,y1,y2,y3,y4,y5,n,rfl,by simpa using hx.1,by simpa using hx.2,by simpa [Value.cells,o0,k0] using hg 0 f0 rfl,by simpa [Value.cells,o1,k1] using hg 1 f1 rfl,by simpa [Value.cells,o2,k2] using hg 2 f2 rfl,by simpa [Value.cells,o3,k3] using hg 3 f3 rfl,by simpa [Value.cells,o4,k4] using hg 4 f4 rfl,by simpa [Value.cells,o5,k5] using hg 5 f5 rfl⟩
end
theorem Zf3 {α : Type} {Q : Nat → α → Prop} : ∀ n,(∀ i,i < n → ∃ a,Q i a) → ∃ l : List α,l.length = n ∧ ∀ (i : Nat) (a : α),l[i]? = some a → Q i a
 | 0,_ => ⟨[],rfl,fun i a h => by simp at h⟩
 | n + 1,h => by
  obtain ⟨l,h1,h2⟩ := Zf3 n (fun i hi => h i (by omega))
  obtain ⟨a,ha⟩ := h n (by omega)
  refine ⟨l ++ [a],by rw [List.length_append,h1]; rfl,fun i b hb => ?_⟩
  by_cases hi : i < l.length
  ·rw [List.getElem?_append_left hi] at hb
   exact h2 i b hb
  ·rw [List.getElem?_append_right (by omega)] at hb
   have h0 : i - l.length = 0 := by
    rcases Nat.eq_zero_or_pos (i - l.length) with e | e
    ·exact e
    ·rw [Yd6 (by rw [List.length_singleton]; omega)] at hb; cases hb
   rw [h0] at hb
   cases hb
   rw [show i = n from by omega]
   exact ha
theorem Yar {n : Int} (h : (Lit.int .i64 n).wf = true) : I64 n := by
 have h1 : (IntKind.i64.min ≤ n ∧ n ≤ IntKind.i64.max) := by simpa [Lit.wf] using h
 exact h1
theorem Zvg {H : Type} {enc : TypeId × Value → H} {w : World} {sp : Nat → Bool} {held : Bool} {fuel : Nat} {v : Value} {x : DataW H × List MemPlace} (h : DataW.trod enc Yd0 w 0 sp held fuel 42 [v] = some x) : ∃ l : List Op,Zc8 w v l ∧ (∀ o ∈ l,I64 o.k) ∧ ((∀ n ∈ x.1.weights Yd0 42,n ≤ reachBytes) → l.length ≤ 140737488351232) := by
 rcases Zeh Yd8 Tryz.underlying44 (by kernel_rfl) (by kernel_rfl) h with ⟨hcs,_⟩ | ⟨a,len,cap,m,D,Pl,hcs,_,hlc,_,hm,hx,hf⟩
 ·have hv : v = .slice none 0 0 := by simpa using hcs
  exact ⟨[],.inl ⟨hv,rfl⟩,fun o ho => (nomatch ho),fun _ => by simp⟩
 ·have hv : v = .slice (some a) len cap := by simpa using hcs
  have hlm : len ≤ m := by rw [hm]; split <;> omega
  obtain ⟨l,hl,hQ⟩ := Zf3 (α:=Op) (Q:=fun i o => (∀ j,j < 4 → ∀ u,(opF o)[j]? = some u → w.cell? (a.add (i * 4 + j)) = some u) ∧ I64 o.k) len (fun i hi => by
   obtain ⟨ys,n,_,_,_,hj⟩ := hf i (by omega)
   obtain ⟨v0,y0,c0,_,t0⟩ := hj 0 _ rfl
   obtain ⟨v1,y1,c1,_,t1⟩ := hj 1 _ rfl
   obtain ⟨v2,y2,c2,_,t2⟩ := hj 2 _ rfl
   obtain ⟨v3,y3,c3,_,t3⟩ := hj 3 _ rfl
   obtain ⟨z0,e0,_,_⟩ := DataW.trod_int Ydz t0
   obtain ⟨z1,e1,_,f1⟩ := DataW.trod_int Ydz t1
   obtain ⟨z2,e2,_,_⟩ := DataW.trod_int Ydz t2
   obtain ⟨z3,e3,_,_⟩ := DataW.trod_int Ydz t3
   cases e0; cases e1; cases e2; cases e3
   refine ⟨⟨z0,z1,z2,z3⟩,fun j hj u hu => ?_,Yar f1⟩
   match j,hj,hu with
   | 0,_,hu => cases hu; exact c0
   | 1,_,hu => cases hu; exact c1
   | 2,_,hu => cases hu; exact c2
   | 3,_,hu => cases hu; exact c3)
  refine ⟨l,.inr ⟨a,cap,by rw [hl]; exact hv,by rw [hl]; exact hlc,fun j u hu => ?_⟩,fun o ho => ?_,fun hw => ?_⟩
  ·have hj : j < l.length * 4 := by
    rcases Nat.lt_or_ge j (l.length * 4) with e | e
    ·exact e
    ·rw [Yd6 (by rw [Zbh]; exact e)] at hu; cases hu
   have hd : j = (j / 4) * 4 + j % 4 := by omega
   have hlt : j / 4 < l.length := by omega
   have hg : l[j / 4]? = some l[j / 4] := Yd1 hlt
   have q := (hQ _ _ hg).1 (j % 4) (Nat.mod_lt _ (by decide)) u
   rw [← hd] at q
   refine q ?_
   have z := Zd5 opF 4 (fun _ => rfl) l hg (j % 4) (Nat.mod_lt _ (by decide))
   rw [← hd] at z
   rw [← z]
   exact hu
  ·obtain ⟨i,hi⟩ := Yd3.1 ho
   exact (hQ i o hi).2
  ·rw [hx] at hw
   have hb : Yd0.bytesOf 44 = 32 := by kernel_rfl
   have := hw ((((Yd2 len).map D).length + ((Yd2 (m - len)).map fun j => D (len + j)).length) * Yd0.bytesOf 44) (by
    simp only [DataW.weights,Yd8,Yd4,true_or])
   rw [hb] at this
   simp only [List.length_map,Yd7] at this
   have hr := reachBytes_lt
   rw [hl]
   omega
theorem Zfv {H : Type} {P : Program} {e : TypeId} : ∀ {ds : List (DataW H)} {d : DataW H},d ∈ ds → ∀ n ∈ d.weights P e,n ∈ DataW.weightsAll P e ds
 | d0 :: ds,d,hd,n,hn => by
  simp only [DataW.weightsAll,List.mem_append]
  rcases Yd4.1 hd with rfl | hd
  ·exact .inl hn
  ·exact .inr (Zfv hd n hn)
theorem open_progs {H : Type} {enc : TypeId × Value → H} {w : World} {sp : Nat → Bool} {held : Bool} {fuel : Nat} {v : Value} {x : DataW H × List MemPlace} (h : DataW.trod enc Yd0 w 0 sp held fuel 24 [v] = some x) (hw : ∀ n ∈ x.1.weights Yd0 24,n ≤ reachBytes) : ∃ (a : Option Addr) (cp : Nat) (ps : List (List Op)),v = .slice a ps.length cp ∧ Jh w a ps ∧ ps.length ≤ cp ∧ ps.length ≤ 140737488351232 ∧ (∀ p ∈ ps,p.length ≤ 140737488351232) ∧ ∀ p ∈ ps,∀ o ∈ p,I64 o.k := by
 rcases open_slice1 Yd5 (by kernel_rfl) h with ⟨hcs,_⟩ | ⟨a,len,cap,m,n,V,D,Pl,hcs,_,hlc,_,hm,hx,hf⟩
 ·have hv : v = .slice none 0 0 := by simpa using hcs
  exact ⟨none,0,[],hv,fun k l hk => by simp at hk,Nat.le_refl _,by simp,fun p hp => (nomatch hp),fun p hp => (nomatch hp)⟩
 ·have hv : v = .slice (some a) len cap := by simpa using hcs
  have hlm : len ≤ m := by rw [hm]; split <;> omega
  rw [hx] at hw
  have hall : ∀ i,i < len → ∀ k ∈ (D i).weights Yd0 42,k ≤ reachBytes := fun i hi k hk => hw k (by
   simp only [DataW.weights,Yd5,Yd4,List.mem_append]
   exact .inr (.inl (Zfv (List.mem_map.2 ⟨i,List.mem_range.2 hi,rfl⟩) k hk)))
  obtain ⟨ps,hl,hQ⟩ := Zf3 (α:=List Op) (Q:=fun i l => (∃ v,w.cell? (a.add i) = some v ∧ Zc8 w v l) ∧ (∀ o ∈ l,I64 o.k) ∧ l.length ≤ 140737488351232) len (fun i hi => by
   obtain ⟨c1,t1⟩ := hf i (by omega)
   obtain ⟨l,q1,q2,q3⟩ := Zvg t1
   exact ⟨l,⟨V i,c1,q1⟩,q2,q3 (hall i hi)⟩)
  have hb : Yd0.bytesOf 42 = 24 := by kernel_rfl
  have := hw ((((Yd2 len).map D).length + ((Yd2 (m - len)).map fun j => D (len + j)).length) * Yd0.bytesOf 42) (by
   simp only [DataW.weights,Yd5,Yd4,true_or])
  rw [hb] at this
  simp only [List.length_map,Yd7] at this
  have hr := reachBytes_lt
  refine ⟨some a,cap,ps,by rw [hl]; exact hv,fun k l hk => ?_,by omega,by omega,fun p hp => ?_,fun p hp => ?_⟩
  ·obtain ⟨⟨v,c1,q1⟩,_⟩ := hQ k l hk
   exact ⟨a,v,rfl,c1,q1⟩
  ·obtain ⟨i,hi⟩ := Yd3.1 hp
   exact (hQ i p hi).2.2
  ·obtain ⟨i,hi⟩ := Yd3.1 hp
   exact (hQ i p hi).2.1
theorem open_cfg {H : Type} {enc : TypeId × Value → H} {w : World} {sp : Nat → Bool} {held : Bool} {r : Reach} {b0 : Nat} {v : Value} {d : DataW H} {p : List MemPlace} (hv : Value.okWide Yd0 w r b0 23 v) (h : DataW.Trod enc Yd0 w 0 sp held 23 v d p) : ∃ c : Cfg,v = Zb5 c := by
 obtain ⟨v0,v1,v2,v3,v4,v5,y0,y1,y2,y3,y4,y5,n,rfl,_,_,t0,t1,t2,t3,t4,t5⟩ := Zrg Tryz.underlying23 (by kernel_rfl) (by kernel_rfl) hv h
 obtain ⟨z0,e0,_⟩ := DataW.trod_int Ydz t0
 obtain ⟨z1,e1,_⟩ := DataW.trod_int Ydz t1
 obtain ⟨z2,e2,_⟩ := DataW.trod_int Ydz t2
 obtain ⟨z3,e3,_⟩ := DataW.trod_int Ydz t3
 obtain ⟨z4,e4,_⟩ := DataW.trod_int Ydz t4
 obtain ⟨z5,e5,_⟩ := DataW.trod_int Ydz t5
 cases e0; cases e1; cases e2; cases e3; cases e4; cases e5
 exact ⟨⟨z0,z1,z2,z3,z4,z5⟩,rfl⟩
theorem open_picks {H : Type} {enc : TypeId × Value → H} {w : World} {sp : Nat → Bool} {held : Bool} {fuel : Nat} {v : Value} {x : DataW H × List MemPlace} (h : DataW.trod enc Yd0 w 0 sp held fuel 25 [v] = some x) : ∃ (a : Option Addr) (cp : Nat) (l : List Int),v = .slice a l.length cp ∧ Zjd w a l := by
 rcases open_slice1 Tryz.underlying25 (by kernel_rfl) h with ⟨hcs,_⟩ | ⟨a,len,cap,m,n,V,D,Pl,hcs,_,hlc,_,hm,hx,hf⟩
 ·have hv : v = .slice none 0 0 := by simpa using hcs
  exact ⟨none,0,[],hv,fun j z hz => by simp at hz⟩
 ·have hv : v = .slice (some a) len cap := by simpa using hcs
  have hlm : len ≤ m := by rw [hm]; split <;> omega
  obtain ⟨l,hl,hQ⟩ := Zf3 (α:=Int) (Q:=fun i z => w.cell? (a.add i) = some (.int .i64 z)) len (fun i hi => by
   obtain ⟨c1,t1⟩ := hf i (by omega)
   obtain ⟨z,e,_⟩ := DataW.trod_int Ydz t1
   have e' : V i = .int .i64 z := by simpa using e
   rw [e'] at c1
   exact ⟨z,c1⟩)
  exact ⟨some a,cap,l,by rw [hl]; exact hv,fun j z hz => ⟨a,rfl,hQ j z hz⟩⟩
theorem top_any {w : World} {a a3 : Option Addr} {cp c3 : Nat} (c : Cfg) {ps : List (List Op)} {l : List Int} (h : Zs9 w a a3 cp ps l) :
  Calls Yd0 3 #[Zb5 c,.slice a ps.length cp,.slice a3 l.length c3] w fun e w' => e = .returned (.bool true) ∧ Below w.heap.size w w' := by
 have z : Calls Yd0 3 #[Zb5 c,.slice a ps.length cp,.slice a3 l.length c3] w fun e w' => e = .returned (.bool true) ∧ Zb No w w' := by
  cases hb : okV c ps with
  | false => exact Zi6 c h (.inl hb)
  | true =>
   by_cases hl : 300 < l.length
   ·exact Zi6 c h (.inr ⟨hb,hl⟩)
   ·exact Zwr c h hb (by omega)
 exact z.mono fun e w' q => ⟨q.1,q.2.below (Nat.le_refl _) (fun _ h => h.elim)⟩
end Go.Proofs.YtdkhbegheognnaaGreatDoor.W

/- Part of the proof of TopEvicts, joined by a program of the session: Mbl Mbj Mbm Pk Mbn. -/
import Derived.Test.YtdkhbegheognnaaGreatDoorJ16
import Derived.Test.YtdkhbegheognnaaGreatDoorJ12
import Derived.Test.YtdkhbegheognnaaGreatDoorJ01
import Derived.Test.YtdkhbegheognnaaGreatDoorJ03
import Derived.Deep.RegionHeld3
namespace Go.Proofs.YtdkhbegheognnaaGreatDoor.W
open Go.RowKit Go.Maps
open _root_.Go.Proofs.Tryz renaming prog → Ydz, ntmps53 → Yd1, func53 → Yd2, ntmps99 → Yd4, func99 → Yd6, ntmps26 → Yee, func26 → Yef
open _root_.Int renaming tmod_eq_emod_of_nonneg → Yd0, emod_lt_of_pos → Yd3, emod_nonneg → Yd7, add_emod_right → Yed
open Ext renaming refl → Yd5
open _root_.List renaming getElem?_eq_getElem → Yd8, getD_eq_getElem?_getD → Yeb, range → Yec
open IntWalk renaming i64_in → Yd9
open _root_.Nat renaming le_refl → Yea
set_option maxHeartbeats 4000000
set_option maxRecDepth 100000
variable {k i tx rx g cap N lb : Nat}
variable {own : Nat → Nat}
variable {w wr : World}
variable {L : ML}
variable {s : St}
variable {o : Op}
variable {R R1 : World → Prop}
variable {b : Bool}
variable {ps : List (List Op)}
variable {xs : List Value}
variable {v : Value}
theorem Zn2 (l : List Op) {e : Op} (h : l[k]? = some e) : (Jr l)[k * 4]? = some (.int .i64 e.d) ∧ (Jr l)[k * 4 + 1]? = some (.int .i64 e.k) ∧ (Jr l)[k * 4 + 2]? = some (.int .i64 e.v) ∧ (Jr l)[k * 4 + 3]? = some (.int .i64 e.w) := by
 induction l generalizing k with
 | nil => simp at h
 | cons a r ih =>
  cases k with
  | zero =>
   simp only [List.getElem?_cons_zero,Option.some.injEq] at h
   subst h
   simp [Jr,opF]
  | succ k =>
   have := ih (k:=k) (by simpa using h)
   rw [show (k + 1) * 4 = k * 4 + 4 from by omega,show k * 4 + 4 + 1 = k * 4 + 1 + 4 from by omega,show k * 4 + 4 + 2 = k * 4 + 2 + 4 from by omega,show k * 4 + 4 + 3 = k * 4 + 3 + 4 from by omega]
   simpa [Jr,opF] using this
theorem Zpp {t : Th} (h : MAt own w L s) (ht : s.ths[i]? = some t) (ho : t.prog[t.op]? = some o) : ∃ g cap,L.pv i = .slice (some ⟨g,0,none⟩) t.prog.length cap ∧ own g = 9 ∧ t.op < t.prog.length ∧ w.cell? ⟨g,t.op * 4,none⟩ = some (.int .i64 o.d) ∧ w.cell? ⟨g,t.op * 4 + 1,none⟩ = some (.int .i64 o.k) ∧ w.cell? ⟨g,t.op * 4 + 2,none⟩ = some (.int .i64 o.v) ∧ w.cell? ⟨g,t.op * 4 + 3,none⟩ = some (.int .i64 o.w) := by
 have hlt := Zdb ho
 obtain ⟨q0,q1,q2,q3⟩ := Zn2 _ ho
 rcases (h.ths i t ht).prog.form with ⟨_,h2,_⟩ | ⟨g,cap,h1,h2,_,_,_,_,h5⟩
 ·omega
 ·exact ⟨g,cap,h1,h2,hlt,h5 _ _ q0,h5 _ _ q1,h5 _ _ q2,h5 _ _ q3⟩
theorem Zdw {s1 : St} {t t1 : Th} (h : MAt own w L s) (ht : s.ths[i]? = some t) (ho : t.prog[t.op]? = some o) (ht1 : s1.ths[i]? = some t1) (hop : t1.op = t.op) (hn : s1.recs.length ≤ 1000000)
  (HD : ∀ W,Zb No w W → (o.d = 1 → Calls Ydz 136 #[Pt (L.tx i),opA o] W fun e w' => e = .returned (.tuple #[]) ∧ MQ own w w' L s1 0 1) ∧ (o.d = 2 → Calls Ydz 137 #[Pt (L.tx i),opA o] W fun e w' => e = .returned (.tuple #[]) ∧ MQ own w w' L s1 0 1) ∧ (o.d ≠ 1 → o.d ≠ 2 → Calls Ydz 138 #[Pt (L.tx i),opA o] W fun e w' => e = .returned (.tuple #[]) ∧ MQ own w w' L s1 0 1)) :
  Calls Ydz 90 #[Pt (L.tx i)] w fun e w' => e = .returned (.bool true) ∧ MQ own w w' L (Yk (Z9 s1 ⟨i,t.op,2,t1.com,0⟩) i t1 5) 0 1 := by
 have T := h.ths i t ht
 obtain ⟨g,cap,hp,hg9,hlt,q0,q1,q2,q3⟩ := Zpp h ht ho
 refine Ztb (g:=g) (cap:=cap) (n:=t.prog.length) (op:=t.op) o (c:=t1.com) ((Za T.block rfl).trans (by rw [hp]; rfl)) (Za T.block rfl) hlt q0 q1 q2 q3 (R1:=fun w1 => MQ own w w1 L s1 0 1) (R2:=fun w2 => MQ own w w2 L (Z9 s1 ⟨i,t.op,2,t1.com,0⟩) 0 1) (Ydy HD) (Ydy fun w1 q W hs => ?_) (Ydy fun w2 q => J0 q ht1 5)
 obtain ⟨own1,L1,q⟩ := q.bs
 have q := q.sm hs
 obtain ⟨d1,-⟩ := q.cells ht1
 have z := Zg6 q.mat ht1 hn ⟨i,t.op,2,t1.com,0⟩ rfl
 rw [q.tx] at z
 refine ⟨by rw [← hop]; exact Za d1 rfl,Za d1 rfl,Za d1 rfl,Za d1 rfl,Za d1 rfl,z.mono fun _ _ r => ⟨r.1,q.then_mq (k':=0) (m':=0) r.2⟩⟩
theorem Zxa {t : Th} (h : MAt own w L s) (ht : s.ths[i]? = some t) (ho : t.prog[t.op]? = some o) (ok : Zge s.sh) (hw : o.d = 2 → 0 ≤ o.w ∧ o.w ≤ 2147483648) (hr : o.d ≠ 1 → 0 < s.wr.res) (hn : L.wn < 100000) (hks : Yo s.keys) (hkl : s.keys.length < 1000000) (hre : s.recs.length ≤ 1000000) :
  Calls Ydz 90 #[Pt (L.tx i)] w fun e w' => e = .returned (.bool true) ∧ MQ own w w' L (Zfx s i t) 0 1 := by
 by_cases h1 : o.d = 1
 ·have e : Zfx s i t = Yk (Z9 (Zl s i { t with com := { t.com with v := ((Zk s.sh.ent o.k).map (·.v)).getD 0,h := (Zk s.sh.ent o.k).isSome },node := ((Zk s.sh.ent o.k).map (·.n)).getD 0 }) ⟨i,t.op,2,{ t.com with v := ((Zk s.sh.ent o.k).map (·.v)).getD 0,h := (Zk s.sh.ent o.k).isSome },0⟩) i { t with com := { t.com with v := ((Zk s.sh.ent o.k).map (·.v)).getD 0,h := (Zk s.sh.ent o.k).isSome },node := ((Zk s.sh.ent o.k).map (·.n)).getD 0 } 5 := by
   unfold Zfx
   rw [ho]
   simp only [if_pos h1]
   simp [Yk,Zl,Z9]
  rw [e]
  exact Zdw h ht ho (Xo ht _) rfl hre (fun W hW => ⟨fun _ => (Zwp (h.old hW).mat ht o).mono fun _ _ r => ⟨r.1,((h.old hW).then_mq (k':=0) (m':=0) r.2).more (by omega) (by omega)⟩,fun h2 => by omega,fun h2 => absurd h1 h2⟩)
 ·have hr := hr h1
  by_cases h2 : o.d = 2
  ·obtain ⟨hw0,hw1⟩ := hw h2
   have e : Zfx s i t = Yk (Z9 (match Zk s.sh.ent o.k with
     | some e => { s with sh := s.sh.put o,wr := { s.wr with res := s.wr.res - 1,q := s.wr.q ++ [⟨3,e.n,o.k,o.w⟩] } }
     | none => { s with sh := s.sh.put o,keys := Yn s.keys ((s.sh.given : Int) + 1) o.k,wr := { s.wr with res := s.wr.res - 1,q := s.wr.q ++ [⟨1,(s.sh.given : Int) + 1,o.k,o.w⟩] } }) ⟨i,t.op,2,t.com,0⟩) i t 5 := by
    unfold Zfx
    rw [ho]
    simp only [if_neg h1,if_pos h2]
    cases Zk s.sh.ent o.k <;> rfl
   rw [e]
   refine Zdw h ht ho (by cases Zk s.sh.ent o.k <;> exact ht) rfl (by cases Zk s.sh.ent o.k <;> exact hre) (fun W hW => ⟨fun h3 => absurd h3 h1,fun _ => (Zws (h.old hW).mat ht ok o hw0 hw1 hr hn hks hkl).mono fun _ _ r => ⟨r.1,((h.old hW).then_mq (k':=0) (m':=1) r.2).more (by omega) (by omega)⟩,fun _ h3 => absurd h2 h3⟩)
  ·cases hg : Zk s.sh.ent o.k with
   | some e =>
    have ee : Zfx s i t = Yk (Z9 (Zl { s with sh := s.sh.remove o.k,wr := { s.wr with res := s.wr.res - 1,q := s.wr.q ++ [⟨4,e.n,o.k,e.w⟩] } } i { t with com := { t.com with v := e.v,h := true } }) ⟨i,t.op,2,{ t.com with v := e.v,h := true },0⟩) i { t with com := { t.com with v := e.v,h := true } } 5 := by
     unfold Zfx
     rw [ho]
     simp only [if_neg h1,if_neg h2,hg]
     simp [Yk,Zl,Z9]
    rw [ee]
    refine Zdw h ht ho (Xo (s:={ s with sh := s.sh.remove o.k,wr := { s.wr with res := s.wr.res - 1,q := s.wr.q ++ [⟨4,e.n,o.k,e.w⟩] } }) ht _) rfl hre (fun W hW => ⟨fun h3 => absurd h3 h1,fun h3 => absurd h3 h2,fun _ _ => (Zfu (h.old hW).mat ht ok o hr hn).mono fun _ _ r => ⟨r.1,?_⟩⟩)
    have z := r.2
    rw [hg] at z
    exact ((h.old hW).then_mq (k':=0) (m':=1) z).more (by omega) (by omega)
   | none =>
    have ee : Zfx s i t = Yk (Z9 (Zl { s with wr := { s.wr with res := s.wr.res - 1 } } i { t with com := { t.com with v := 0,h := false } }) ⟨i,t.op,2,{ t.com with v := 0,h := false },0⟩) i { t with com := { t.com with v := 0,h := false } } 5 := by
     unfold Zfx
     rw [ho]
     simp only [if_neg h1,if_neg h2,hg]
     simp [Yk,Zl,Z9]
    rw [ee]
    refine Zdw h ht ho (Xo (s:={ s with wr := { s.wr with res := s.wr.res - 1 } }) ht _) rfl hre (fun W hW => ⟨fun h3 => absurd h3 h1,fun h3 => absurd h3 h2,fun _ _ => (Zfu (h.old hW).mat ht ok o hr hn).mono fun _ _ r => ⟨r.1,?_⟩⟩)
    have z := r.2
    rw [hg] at z
    exact ((h.old hW).then_mq (k':=0) (m':=1) z).more (by omega) (by omega)
theorem Zrs {t : Th} (h : MAt own w L s) (ht : s.ths[i]? = some t) (hn : s.recs.length ≤ 1000000) (r : Rec) (hr : r.t = (i : Int)) :
  Calls Ydz 127 #[Pt (L.tx i),.int .i64 r.o,.int .i64 r.a,.agg #[.int .i64 r.c.d,.int .i64 r.c.k,.int .i64 r.c.v,.bool r.c.h],.int .i64 r.e] w fun e w' => e = .returned (.tuple #[]) ∧ MQ own w w' L (Z9 s r) 0 0 ∧ Zb (fun b => own b ≠ 7) w w' := by
 have T := h.ths i t ht
 have hx := T.ox
 have hpp := h.op
 refine (Zfr own L.p (L.tx i) s.recs.length _ _ _ _ _ _ _ _ _ (Z5 s.recs) (i : Int) r w hr h.parts (Za T.block rfl) (Za T.block rfl) (by omega) (by omega) (fun e => by rw [e] at hx; omega) h.recs hn).mono ?_
 rintro e w' ⟨rfl,own',v',he,hR,hB,hO⟩
 refine ⟨rfl,⟨own',{ L with rec_ := v' },he,?_,hO.mono (fun b _ e => ?_),rfl,rfl,by simp,by simp⟩,hO.mono (fun b _ e => by rcases e with rfl | e <;> omega)⟩
 ·refine h.own (L':={ L with rec_ := v' }) (s':=Z9 s r) he hO (fun b hb e => ?_) (by rfl) (by rfl) hB ?_ ?_ ?_
  ·rcases e with rfl | e
   ·exact .inl hpp
   ·exact .inr (.inr (.inl e))
  ·exact h.keys.kept hO (fun e => by
   have := h.okm
   rcases e with e | e
   ·rw [e] at this; omega
   ·omega)
  ·have e1 : Z5 (Z9 s r).recs = Z5 s.recs ++ V8 r := by simp [Z5,Z9]
   have e2 : (Z9 s r).recs.length = s.recs.length + 1 := by simp [Z9]
   rw [e1,e2]; exact hR
  ·exact h.evs.kept he hO (fun b hb e z => by rcases z with rfl | z <;> omega)
 ·show own b ≠ 19
  rcases e with rfl | e <;> omega
theorem Zqg {t : Th} (h : MAt own w L s) (ht : s.ths[i]? = some t) (hop : t.op ≤ t.prog.length) (hre : s.recs.length ≤ 1000000) (hcap : 0 ≤ s.cap ∧ s.cap ≤ 512) (hE : Err.ErrType w) (h19 : own 0 = 19) :
  Calls Ydz 83 #[Pt (L.tx i)] w fun e w' => (∃ b,e = .returned (.bool b)) ∧ MQ own w w' L (Zag s i t) 0 0 := by
 have T := h.ths i t ht
 cases ho : t.prog[t.op]? with
 | none =>
  have hlen : t.op = t.prog.length := by
   have := List.getElem?_eq_none_iff.1 ho
   omega
  rw [show Zag s i t = s from by unfold Zag; rw [ho]]
  have c2 : ∃ a cap,w.cell? ⟨L.tx i,2,none⟩ = some (.slice a t.op cap) := by
   rcases T.prog.form with ⟨h1,h2,_⟩ | ⟨g,cap,h1,_⟩
   ·exact ⟨_,_,(Za T.block rfl).trans (by rw [h1,hlen,h2]; rfl)⟩
   ·exact ⟨_,_,(Za T.block rfl).trans (by rw [h1,← hlen]; rfl)⟩
  obtain ⟨a,cap,c2⟩ := c2
  exact (Zmy (Za T.block rfl) c2).mono fun _ _ r => ⟨⟨_,r.1⟩,(MQ.refl h 0 0).sm r.2⟩
 | some o =>
  obtain ⟨g,cap,hp,hg9,hlt,q0,q1,q2,q3⟩ := Zpp h ht ho
  have hblk : w.heap[L.tx i]? = some (.cells #[Pt L.p,.int .i64 (i : Int),.slice (some ⟨g,0,none⟩) t.prog.length cap,.int .i64 (t.op : Int),.int .i64 t.ph,.int .i64 t.com.d,.int .i64 t.com.k,.int .i64 t.com.v,.bool t.com.h,.int .i64 t.err,.int .i64 t.node,.int .i64 t.back,L.vv i] 74 (0,0)) := by
   have := T.block
   unfold thC at this
   rw [hp] at this
   exact this
  have ox := T.ox
  have op := h.op
  have h1 : MAt (ext own w.heap.size 7) w L s := h.kept (Jp _ _ _) (Zb.refl No w) (fun _ _ _ h => h)
  -- behind the stores
  have KEY : ∀ (er : Int) (W : World),Zb (fun b => b = L.tx i) w W → W.heap[L.tx i]? = some (thC L i { t with com := Yz o,err := er }) → W.heap[w.heap.size]? = some (opO o) →
    Calls Ydz 127 #[Pt (L.tx i),.int .i64 (t.op : Int),.int .i64 1,.agg #[.int .i64 o.d,.int .i64 o.k,.int .i64 (Yz o).v,.bool false],.int .i64 0] W fun e w' => e = .returned (.tuple #[]) ∧ MQ own w w' L (Z9 (Zl s i { t with com := Yz o,err := er }) ⟨i,t.op,1,Yz o,0⟩) 0 0 ∧ w'.cell? ⟨L.tx i,9,none⟩ = some (.int .i64 er) ∧ w'.frozen? ⟨L.tx i,9,none⟩ = false ∧ w'.heap[w.heap.size]? = some (opO o) := fun er W ho' hb hx => by
   have m := h1.cell (t':={ t with com := Yz o,err := er }) ht ho' hb rfl rfl
   have q : MBs own w W L (Zl s i { t with com := Yz o,err := er }) 0 0 (ext own w.heap.size 7) L := ⟨Jp _ _ _,m,ho'.mono (fun b _ e => by have e' : b = L.tx i := e; show own b ≠ 19; rw [e']; omega),rfl,rfl,by omega,by omega⟩
   refine (Zrs m (Xo ht _) hre ⟨i,t.op,1,Yz o,0⟩ rfl).mono fun _ w' r => ?_
   obtain ⟨r1,r2,r3⟩ := r
   obtain ⟨own2,L2,z⟩ := r2.bs
   obtain ⟨d1,-⟩ := z.cells (Xo ht _)
   exact ⟨r1,q.then_mq (k':=0) (m':=0) r2,Za d1 rfl,Zc d1 9,r3.kept hx (fun hh => hh (Jz (Yea _)))⟩
  have FIN : ∀ (er ph : Int) (w1 : World),MQ own w w1 L (Z9 (Zl s i { t with com := Yz o,err := er }) ⟨i,t.op,1,Yz o,0⟩) 0 0 → Calls Ydz 86 #[Pt (L.tx i),.int .i64 ph] w1 fun e w' => e = .returned (.bool true) ∧ MQ own w w' L (Yk (Z9 s ⟨i,t.op,1,Yz o,0⟩) i { t with com := Yz o,err := er } ph) 0 0 := fun er ph w1 q => by
   have z := J0 q (Xo ht _) ph
   have e : Yk (Z9 (Zl s i { t with com := Yz o,err := er }) ⟨i,t.op,1,Yz o,0⟩) i { t with com := Yz o,err := er } ph = Yk (Z9 s ⟨i,t.op,1,Yz o,0⟩) i { t with com := Yz o,err := er } ph := by simp [Yk,Zl,Z9]
   rw [e] at z
   exact z
  have hB : ∀ er,(if o.d = 2 then Kc o.w s.cap else 0) = er → Zag s i t = (if er ≠ 0 then Yk (Z9 s ⟨i,t.op,1,Yz o,0⟩) i { t with com := Yz o,err := er } 16 else if o.d = 1 then Yk (Z9 s ⟨i,t.op,1,Yz o,0⟩) i { t with com := Yz o,err := er } 3 else if o.d = 2 ∨ o.d = 3 then Yk (Z9 s ⟨i,t.op,1,Yz o,0⟩) i { t with com := Yz o,err := er } 1 else if o.d = 4 then Yk (Z9 s ⟨i,t.op,1,Yz o,0⟩) i { t with com := Yz o,err := er } 9 else Yk (Z9 s ⟨i,t.op,1,Yz o,0⟩) i { t with com := Yz o,err := 1 } 16) := fun er he => by
   unfold Zag
   rw [ho]
   simp only [he]
   rfl
  by_cases h2 : o.d = 2
  ·have hv : (Yz o).v = o.v := by unfold Yz; rw [if_pos h2]
   have hb0 := hB (Kc o.w s.cap) (if_pos h2)
   have hpx : L.p ≠ L.tx i := fun e => by rw [e] at op; omega
   have hx0 : (0 : Nat) ≠ L.tx i := fun e => by rw [← e] at ox; omega
   refine Calls.mono (Zqh (p:=L.p) (g:=g) (cap:=cap) (op:=t.op) (n:=t.prog.length) o hblk hlt q0 q1 q2 q3 hpx (cp:=s.cap) (er:=Kc o.w s.cap) (Za h.parts rfl) (R1:=fun w1 => MQ own w w1 L (Z9 (Zl s i { t with com := Yz o,err := Kc o.w s.cap }) ⟨i,t.op,1,Yz o,0⟩) 0 0) (R3:=fun w' => MQ own w w' L (Zag s i t) 0 0) (Ydy fun W ho' hb hx => ?_) (Ydy fun W ho' => ?_) h2 (Ydy fun w1 ph q hph => ?_)) (fun _ _ r => ⟨⟨_,r.1⟩,r.2⟩)
   ·have z := KEY (Kc o.w s.cap) W ho' (by rw [hb]; unfold thC; rw [hp,hv]; rfl) hx
    rw [hv] at z
    exact z
   ·by_cases he : Kc o.w s.cap = 0
    ·have hw : 0 ≤ o.w ∧ o.w ≤ s.cap := by
      unfold Kc at he
      split at he
      ·omega
      ·split at he <;> omega
     refine (Zqb o.k o.w s.cap W hw.1 hcap.1 hcap.2 hw.2).mono fun _ w1 r => ?_
     obtain ⟨rfl,rfl⟩ := r
     refine ⟨_,rfl,Zb.refl _ _,?_⟩
     rw [he]
     exact Zn0 w1
    ·refine (Ztf o.k o.w s.cap _ W hcap.1 hcap.2 rfl he).mono fun _ w1 r => ?_
     obtain ⟨rfl,rfl⟩ := r
     refine ⟨_,rfl,(Zb.refl No W).alloc _,Zjz _ _ _ ?_ (Za (Zh W _) rfl)⟩
     have hEW : Err.ErrType W := Zd hE ho' hx0
     exact Zd (S:=No) hEW ((Zb.refl No W).alloc _) (fun h => h)
   ·have z := FIN (Kc o.w s.cap) ph w1 q
    rw [hb0]
    rcases hph with ⟨e1,e2⟩ | ⟨e1,e2⟩
    ·subst e2; rw [if_pos e1]; exact z
    ·subst e2; rw [if_neg (by omega),if_neg (by omega),if_pos (.inl h2)]; exact z
  ·have hv : (Yz o).v = 0 := by unfold Yz; rw [if_neg h2]
   have hb0 := hB 0 (if_neg h2)
   rw [if_neg (by omega)] at hb0
   refine Calls.mono (Zkl (p:=L.p) (g:=g) (cap:=cap) (op:=t.op) (n:=t.prog.length) o hblk hlt q0 q1 q2 q3 (R1:=fun w1 => MQ own w w1 L (Z9 (Zl s i { t with com := Yz o,err := 0 }) ⟨i,t.op,1,Yz o,0⟩) 0 0) (R3:=fun w' => MQ own w w' L (Zag s i t) 0 0) (Ydy fun W ho' hb hx => ?_) h2 (Ydy fun w1 ph q hph => ?_) (Ydy fun w1 q hno => ?_)) (fun _ _ r => ⟨⟨_,r.1⟩,r.2⟩)
   ·have z := KEY 0 W ho' (by rw [hb]; unfold thC; rw [hp,hv]; rfl) hx
    rw [hv] at z
    exact z
   ·have z := FIN 0 ph w1 q
    rw [hb0]
    rcases hph with ⟨e1,e2⟩ | ⟨e1,e2⟩ | ⟨e1,e2⟩
    ·subst e2; rw [if_pos e1]; exact z
    ·subst e2; rw [if_neg (by omega),if_pos (.inr e1)]; exact z
    ·subst e2; rw [if_neg (by omega),if_neg (by omega),if_pos e1]; exact z
   ·rw [hb0,if_neg (by omega),if_neg (by omega),if_neg (by omega)]
    obtain ⟨own1,L1,q⟩ := q.bs
    have ht1 := Xo ht { t with com := Yz o,err := 0 }
    have z := Zgu q.mat (s:=Z9 (Zl s i { t with com := Yz o,err := 0 }) ⟨i,t.op,1,Yz o,0⟩) ht1 9 (.int .i64 1) { t with com := Yz o,err := 1 } (fun cs hc => by rw [hc]; rfl) rfl rfl 16
    rw [q.tx] at z
    have e : Yk (Z9 (Zl s i { t with com := Yz o,err := 0 }) ⟨i,t.op,1,Yz o,0⟩) i { t with com := Yz o,err := 1 } 16 = Yk (Z9 s ⟨i,t.op,1,Yz o,0⟩) i { t with com := Yz o,err := 1 } 16 := by simp [Yk,Zl,Z9]
    rw [e] at z
    exact z.mono fun _ _ r => ⟨r.1,q.then_mq (k':=0) (m':=0) r.2⟩
section
attribute [local go_sem] World.setCell_drew Zg Zf
theorem d11 (c4 : w.cell? ⟨tx,4,none⟩ = some (.int .i64 11)) 
  (HC : Hid (Calls Ydz 145 #[Pt tx] w fun e w' => e = .returned (.bool true) ∧ R w')) :
  Calls Ydz 99 #[Pt tx] w fun e w' => e = .returned (.bool true) ∧ R w' := by
 go_enter Yd6,Yd4
 go_wp2_with fail
 refine (HC.out).mono ?_
 rintro e w1 ⟨rfl,h1⟩
 go_wp2
 go_ret
 exact ⟨rfl,h1⟩
theorem d13 (c4 : w.cell? ⟨tx,4,none⟩ = some (.int .i64 13)) 
  (HC : Hid (Calls Ydz 147 #[Pt tx] w fun e w' => e = .returned (.bool true) ∧ R w')) :
  Calls Ydz 99 #[Pt tx] w fun e w' => e = .returned (.bool true) ∧ R w' := by
 go_enter Yd6,Yd4
 go_wp2_with fail
 refine (HC.out).mono ?_
 rintro e w1 ⟨rfl,h1⟩
 go_wp2
 go_ret
 exact ⟨rfl,h1⟩
theorem d15 (c4 : w.cell? ⟨tx,4,none⟩ = some (.int .i64 15)) 
  (HC : Hid (Calls Ydz 149 #[Pt tx] w fun e w' => e = .returned (.bool true) ∧ R w')) :
  Calls Ydz 99 #[Pt tx] w fun e w' => e = .returned (.bool true) ∧ R w' := by
 go_enter Yd6,Yd4
 go_wp2_with fail
 refine (HC.out).mono ?_
 rintro e w1 ⟨rfl,h1⟩
 go_wp2
 go_ret
 exact ⟨rfl,h1⟩
theorem d12 {k : Int} (c4 : w.cell? ⟨tx,4,none⟩ = some (.int .i64 12)) 
  (HS : Hid (Calls Ydz 146 #[Pt tx] w fun e w' => e = .returned (.int .i64 k) ∧ Sm w w'))
  (HC : Hid (∀ W,Sm w W → Calls Ydz 88 #[Pt tx,.int .i64 k,.int .i64 13] W fun e w' => e = .returned (.bool b) ∧ R w')) :
  Calls Ydz 99 #[Pt tx] w fun e w' => e = .returned (.bool b) ∧ R w' := by
 go_enter Yd6,Yd4
 go_wp2_with fail
 refine (HS.out).mono ?_
 rintro e w1 ⟨rfl,h1⟩
 go_wp2_with fail
 refine (HC.out w1 h1).mono ?_
 rintro e w2 ⟨rfl,h2⟩
 go_wp2
 go_ret
 exact ⟨rfl,h2⟩
theorem Zty {p : Nat} (c0 : w.cell? ⟨tx,0,none⟩ = some (Pt p)) (p3 : w.cell? ⟨p,3,none⟩ = some (Pt rx)) (c4 : w.cell? ⟨tx,4,none⟩ = some (.int .i64 10)) 
  (HT : Hid (Calls Ydz 143 #[Pt rx] w fun e w' => e = .returned (.tuple #[.int .i64 0,.bool false]) ∧ R1 w'))
  (HG : Hid (∀ w1,R1 w1 → Calls Ydz 86 #[Pt tx,.int .i64 11] w1 fun e w' => e = .returned (.bool true) ∧ R w')) :
  Calls Ydz 99 #[Pt tx] w fun e w' => e = .returned (.bool true) ∧ R w' := by
 go_enter Yd6,Yd4
 go_wp2_with fail
 refine (HT.out).mono ?_
 rintro e w1 ⟨rfl,h1⟩
 go_wp2_with fail
 refine (HG.out w1 h1).mono ?_
 rintro e w2 ⟨rfl,h2⟩
 go_wp2
 go_ret
 exact ⟨rfl,h2⟩
theorem Ztz {p : Nat} {v : Int} (c0 : w.cell? ⟨tx,0,none⟩ = some (Pt p)) (p3 : w.cell? ⟨p,3,none⟩ = some (Pt rx)) (c4 : w.cell? ⟨tx,4,none⟩ = some (.int .i64 10)) 
  (HT : Hid (Calls Ydz 143 #[Pt rx] w fun e w' => e = .returned (.tuple #[.int .i64 v,.bool true]) ∧ R1 w'))
  (HG : Hid (∀ w1,R1 w1 → Calls Ydz 144 #[Pt tx,.agg #[.int .i64 2,.int .i64 v,.int .i64 0,.int .i64 0]] w1 fun e w' => ∃ u,e = .returned u ∧ R w')) :
  Calls Ydz 99 #[Pt tx] w fun e w' => e = .returned (.bool true) ∧ R w' := by
 go_enter Yd6,Yd4
 go_wp2_with fail
 refine (HT.out).mono ?_
 rintro e w1 ⟨rfl,h1⟩
 go_wp2_with fail
 refine (HG.out w1 h1).mono ?_
 rintro e w2 ⟨u,rfl,h2⟩
 go_wp2
 go_ret
 exact ⟨rfl,h2⟩
theorem d14 {p cx off n : Nat} {th k : Int} (hn : 0 < n) (hcap : n ≤ cap) (c0 : w.cell? ⟨tx,0,none⟩ = some (Pt p)) (c1 : w.cell? ⟨tx,1,none⟩ = some (.int .i64 th)) (p5 : w.cell? ⟨p,5,none⟩ = some (Pt cx)) (c4 : w.cell? ⟨tx,4,none⟩ = some (.int .i64 14)) 
  (HS : Hid (∀ W,Sm w W → Calls Ydz 146 #[Pt tx] W fun e w' => e = .returned (.int .i64 k) ∧ Sm W w'))
  (HU : Hid (∀ W,Sm w W → Calls Ydz 139 #[Pt cx,.int .i64 th,.int .i64 k] W fun e w' => e = .returned (.int .i64 0) ∧ R1 w' ∧ w'.cell? ⟨tx,0,none⟩ = some (Pt p) ∧ w'.cell? ⟨tx,1,none⟩ = some (.int .i64 th) ∧ w'.cell? ⟨p,5,none⟩ = some (Pt cx) ∧ w'.cell? ⟨tx,12,none⟩ = some (.slice (some ⟨g,off,none⟩) n cap) ∧ w'.frozen? ⟨tx,12,none⟩ = false))
  (H1 : Hid (∀ w1 off',R1 w1 → (off' = off + 1 ∨ n = 1) → Calls Ydz 148 #[Pt tx] (w1.setCell ⟨tx,12,none⟩ (.slice (some ⟨g,off',none⟩) (n - 1) (cap - 1))) fun e w' => e = .returned (.bool true) ∧ R w')) :
  Calls Ydz 99 #[Pt tx] w fun e w' => e = .returned (.bool true) ∧ R w' := by
 go_enter Yd6,Yd4
 go_wp2
 go_region_held3 (fun w' => w'.cell? ⟨tx,0,none⟩ = some (Pt p) ∧ w'.cell? ⟨tx,1,none⟩ = some (.int .i64 th) ∧ w'.cell? ⟨p,5,none⟩ = some (Pt cx)) (go_keep) (first | (go_at_call 146; refine (HS.out w.drew ⟨rfl,rfl,rfl,rfl⟩).mono ?_; rintro e w3 ⟨rfl,hs⟩; have a0 := (hs.cell ⟨tx,0,none⟩).trans (show w.drew.cell? ⟨tx,0,none⟩ = some (Pt p) from c0); have a1 := (hs.cell ⟨tx,1,none⟩).trans (show w.drew.cell? ⟨tx,1,none⟩ = some (.int .i64 th) from c1); have a5 := (hs.cell ⟨p,5,none⟩).trans (show w.drew.cell? ⟨p,5,none⟩ = some (Pt cx) from p5); have hs3 := Ydy ((show Sm w w.drew from ⟨rfl,rfl,rfl,rfl⟩).trans hs); clear hs) | (go_at_call 139; refine (HU.out w3 hs3.out).mono ?_; rintro e w4 ⟨rfl,hq,k0,k1,k5,k12,f12⟩))
 have G1 := Ydy (H1.out _ (off + 1) hq (.inl rfl))
 have G2 := Ydy (fun h => H1.out _ off hq (.inr h))
 clear H1 HS HU hq hs3 a0 a1 a5 k1 k5 c0 c1 p5
 by_cases hz : cap - 1 = 0
 ·have G := Ydy (G2.out (by omega))
  rw [hz] at G
  clear G1 G2
  go_wp2_with fail
  refine (G.out).mono ?_
  rintro e w5 ⟨rfl,h5⟩
  go_wp2
  go_ret
  exact ⟨rfl,h5⟩
 ·clear G2
  go_wp2_with fail
  refine (G1.out).mono ?_
  rintro e w5 ⟨rfl,h5⟩
  go_wp2
  go_ret
  exact ⟨rfl,h5⟩
theorem s0 (c4 : w.cell? ⟨tx,4,none⟩ = some (.int .i64 0)) 
  (HC : Hid (Calls Ydz 83 #[Pt tx] w fun e w' => (∃ b,e = .returned (.bool b)) ∧ R w')) :
  Calls Ydz 53 #[Pt tx] w fun e w' => (∃ b,e = .returned (.bool b)) ∧ R w' := by
 go_enter Yd2,Yd1
 go_wp2_with fail
 refine (HC.out).mono ?_
 rintro e w1 ⟨⟨b,rfl⟩,h1⟩
 go_wp2
 go_ret
 exact ⟨⟨b,rfl⟩,h1⟩
theorem Yc0 {p wx : Nat} (c0 : w.cell? ⟨tx,0,none⟩ = some (Pt p)) (p4 : w.cell? ⟨p,4,none⟩ = some (Pt wx)) (c4 : w.cell? ⟨tx,4,none⟩ = some (.int .i64 1)) 
  (HT : Hid (Calls Ydz 85 #[Pt wx] w fun e w' => e = .returned .nilIface ∧ R1 w'))
  (HG : Hid (∀ w1,R1 w1 → Calls Ydz 86 #[Pt tx,.int .i64 3] w1 fun e w' => e = .returned (.bool true) ∧ R w')) :
  Calls Ydz 53 #[Pt tx] w fun e w' => e = .returned (.bool true) ∧ R w' := by
 go_enter Yd2,Yd1
 go_wp2_with fail
 refine (HT.out).mono ?_
 rintro e w1 ⟨rfl,h1⟩
 go_wp2_with fail
 refine (Err.is_nil 2 w1).mono ?_
 rintro e w2 ⟨rfl,rfl⟩
 go_wp2_with fail
 refine (HG.out w1 h1).mono ?_
 rintro e w3 ⟨rfl,h3⟩
 go_wp2
 go_ret
 exact ⟨rfl,h3⟩
theorem Zyz {p wx : Nat} (c0 : w.cell? ⟨tx,0,none⟩ = some (Pt p)) (p4 : w.cell? ⟨p,4,none⟩ = some (Pt wx)) (c4 : w.cell? ⟨tx,4,none⟩ = some (.int .i64 1)) 
  (HT : Hid (Calls Ydz 85 #[Pt wx] w fun e w' => ∃ b,e = .returned (.iface 278 (Pt b)) ∧ w'.cell? ⟨b,0,none⟩ = some (.int .i64 2) ∧ R1 w'))
  (HG : Hid (∀ w1,R1 w1 → Calls Ydz 86 #[Pt tx,.int .i64 2] w1 fun e w' => e = .returned (.bool true) ∧ R w')) :
  Calls Ydz 53 #[Pt tx] w fun e w' => e = .returned (.bool true) ∧ R w' := by
 go_enter Yd2,Yd1
 go_wp2_with fail
 refine (HT.out).mono ?_
 rintro e w1 ⟨b,rfl,hb,h1⟩
 go_wp2_with fail
 refine (Err.is_fault ⟨b,0,none⟩ 2 2 w1 hb).mono ?_
 rintro e w2 ⟨rfl,rfl⟩
 go_wp2_with fail
 refine (HG.out w1 h1).mono ?_
 rintro e w3 ⟨rfl,h3⟩
 go_wp2
 go_ret
 exact ⟨rfl,h3⟩
theorem s2 (c4 : w.cell? ⟨tx,4,none⟩ = some (.int .i64 2)) 
  (HC : Hid (Calls Ydz 87 #[Pt tx,.int .i64 1] w fun e w' => e = .returned (.bool true) ∧ R w')) :
  Calls Ydz 53 #[Pt tx] w fun e w' => e = .returned (.bool true) ∧ R w' := by
 go_enter Yd2,Yd1
 go_wp2_with fail
 refine (HC.out).mono ?_
 rintro e w1 ⟨rfl,h1⟩
 go_wp2
 go_ret
 exact ⟨rfl,h1⟩
theorem s8 (c4 : w.cell? ⟨tx,4,none⟩ = some (.int .i64 8)) 
  (HC : Hid (Calls Ydz 87 #[Pt tx,.int .i64 16] w fun e w' => e = .returned (.bool true) ∧ R w')) :
  Calls Ydz 53 #[Pt tx] w fun e w' => e = .returned (.bool true) ∧ R w' := by
 go_enter Yd2,Yd1
 go_wp2_with fail
 refine (HC.out).mono ?_
 rintro e w1 ⟨rfl,h1⟩
 go_wp2
 go_ret
 exact ⟨rfl,h1⟩
theorem s4 (c4 : w.cell? ⟨tx,4,none⟩ = some (.int .i64 4)) 
  (HC : Hid (Calls Ydz 90 #[Pt tx] w fun e w' => e = .returned (.bool true) ∧ R w')) :
  Calls Ydz 53 #[Pt tx] w fun e w' => e = .returned (.bool true) ∧ R w' := by
 go_enter Yd2,Yd1
 go_wp2_with fail
 refine (HC.out).mono ?_
 rintro e w1 ⟨rfl,h1⟩
 go_wp2
 go_ret
 exact ⟨rfl,h1⟩
theorem s5 (c4 : w.cell? ⟨tx,4,none⟩ = some (.int .i64 5)) 
  (HC : Hid (Calls Ydz 91 #[Pt tx] w fun e w' => e = .returned (.bool true) ∧ R w')) :
  Calls Ydz 53 #[Pt tx] w fun e w' => e = .returned (.bool true) ∧ R w' := by
 go_enter Yd2,Yd1
 go_wp2_with fail
 refine (HC.out).mono ?_
 rintro e w1 ⟨rfl,h1⟩
 go_wp2
 go_ret
 exact ⟨rfl,h1⟩
theorem s16 (c4 : w.cell? ⟨tx,4,none⟩ = some (.int .i64 16)) 
  (HC : Hid (Calls Ydz 98 #[Pt tx] w fun e w' => e = .returned (.bool true) ∧ R w')) :
  Calls Ydz 53 #[Pt tx] w fun e w' => e = .returned (.bool true) ∧ R w' := by
 go_enter Yd2,Yd1
 go_wp2_with fail
 refine (HC.out).mono ?_
 rintro e w1 ⟨rfl,h1⟩
 go_wp2
 go_ret
 exact ⟨rfl,h1⟩
theorem s3 {p ex : Nat} {key k : Int} (c0 : w.cell? ⟨tx,0,none⟩ = some (Pt p)) (p1 : w.cell? ⟨p,1,none⟩ = some (Pt ex)) (c6 : w.cell? ⟨tx,6,none⟩ = some (.int .i64 key)) (c4 : w.cell? ⟨tx,4,none⟩ = some (.int .i64 3)) 
  (HS : Hid (∀ W,Sm w W → Calls Ydz 89 #[Pt ex,.int .i64 key] W fun e w' => e = .returned (.int .i64 k) ∧ Sm W w'))
  (HC : Hid (∀ W,Sm w W → Calls Ydz 88 #[Pt tx,.int .i64 k,.int .i64 4] W fun e w' => e = .returned (.bool b) ∧ R w' ∧ w'.cell? ⟨tx,0,none⟩ = some (Pt p) ∧ w'.cell? ⟨p,1,none⟩ = some (Pt ex) ∧ w'.cell? ⟨tx,6,none⟩ = some (.int .i64 key))) :
  Calls Ydz 53 #[Pt tx] w fun e w' => e = .returned (.bool b) ∧ R w' := by
 go_enter Yd2,Yd1
 go_wp2
 go_region_held3 (fun w' => w'.cell? ⟨tx,0,none⟩ = some (Pt p) ∧ w'.cell? ⟨p,1,none⟩ = some (Pt ex) ∧ w'.cell? ⟨tx,6,none⟩ = some (.int .i64 key)) (go_keep) (first | (go_at_call 89; refine (HS.out w.drew ⟨rfl,rfl,rfl,rfl⟩).mono ?_; rintro e w3 ⟨rfl,hs⟩; have a0 := (hs.cell ⟨tx,0,none⟩).trans (show w.drew.cell? ⟨tx,0,none⟩ = some (Pt p) from c0); have a1 := (hs.cell ⟨p,1,none⟩).trans (show w.drew.cell? ⟨p,1,none⟩ = some (Pt ex) from p1); have a6 := (hs.cell ⟨tx,6,none⟩).trans (show w.drew.cell? ⟨tx,6,none⟩ = some (.int .i64 key) from c6); have hs3 := Ydy ((show Sm w w.drew from ⟨rfl,rfl,rfl,rfl⟩).trans hs); clear hs) | (go_at_call 88; refine (HC.out w3 hs3.out).mono ?_; rintro e w4 ⟨rfl,hq,i0,i1,i6⟩))
 go_wp2
 go_ret
 exact ⟨rfl,hq⟩
theorem s6 {p : Nat} {th nd : Int} (c0 : w.cell? ⟨tx,0,none⟩ = some (Pt p)) (p3 : w.cell? ⟨p,3,none⟩ = some (Pt rx)) (c1 : w.cell? ⟨tx,1,none⟩ = some (.int .i64 th)) (c10 : w.cell? ⟨tx,10,none⟩ = some (.int .i64 nd)) (c4 : w.cell? ⟨tx,4,none⟩ = some (.int .i64 6)) 
  (HT : Hid (∀ W,Sm w W → Calls Ydz 92 #[Pt rx,.int .i64 th,.int .i64 nd] W fun e w' => e = .returned (.bool b) ∧ R1 w'))
  (HG : Hid (∀ w1,R1 w1 → Calls Ydz 86 #[Pt tx,.int .i64 (if b then 16 else 8)] w1 fun e w' => e = .returned (.bool true) ∧ R w')) :
  Calls Ydz 53 #[Pt tx] w fun e w' => e = .returned (.bool true) ∧ R w' := by
 go_enter Yd2,Yd1
 go_wp2
 refine Z4 15 (by kernel_rfl) (by kernel_rfl) ?_
 intro W hcW hfW hsW HW
 have T1 := Ydy (HT.out W (by rw [← HW.out]; exact ⟨rfl,rfl,rfl,rfl⟩))
 simp only [List.take_succ_cons,List.take_zero,List.drop_succ_cons,List.drop_zero]
 iterate 15 still_step
 refine wpStill_nil ?_
 go_wp2_with fail
 refine (T1.out).mono ?_
 rintro e w1 ⟨rfl,h1⟩
 have G := Ydy (HG.out _ h1)
 clear HG HT T1 h1
 cases b
 ·go_wp2_with fail
  refine (G.out).mono ?_
  rintro e w2 ⟨rfl,h2⟩
  go_wp2
  go_ret
  exact ⟨rfl,h2⟩
 ·go_wp2_with fail
  refine (G.out).mono ?_
  rintro e w2 ⟨rfl,h2⟩
  go_wp2
  go_ret
  exact ⟨rfl,h2⟩
theorem s7 {s s' : Int} {R2 : World → Prop} (hs : J5 s = s') (c4 : w.cell? ⟨tx,4,none⟩ = some (.int .i64 7)) 
  (HS : Hid (Calls Ydz 95 #[Pt tx] w fun e w' => e = .returned (.int .i64 s) ∧ R1 w'))
  (HT : Hid (∀ w1,R1 w1 → Calls Ydz 93 #[Pt tx,.int .i64 s'] w1 fun e w' => e = .returned (.tuple #[]) ∧ R2 w'))
  (HG : Hid (∀ w1,R2 w1 → Calls Ydz 86 #[Pt tx,.int .i64 8] w1 fun e w' => e = .returned (.bool true) ∧ R w')) :
  Calls Ydz 53 #[Pt tx] w fun e w' => e = .returned (.bool true) ∧ R w' := by
 go_enter Yd2,Yd1
 have WR := Ydy (fun W => Zso s W)
 rw [hs] at WR
 clear hs
 go_wp2_with fail
 refine (HS.out).mono ?_
 rintro e w1 ⟨rfl,h1⟩
 go_wp2_with fail
 refine (WR.out w1).mono ?_
 rintro e w2 ⟨rfl,rfl⟩
 go_wp2_with fail
 refine (HT.out _ h1).mono ?_
 rintro e w3 ⟨rfl,h3⟩
 go_wp2_with fail
 refine (HG.out w3 h3).mono ?_
 rintro e w4 ⟨rfl,h4⟩
 go_wp2
 go_ret
 exact ⟨rfl,h4⟩
theorem Yc1 {p : Nat} {n : Int} (c0 : w.cell? ⟨tx,0,none⟩ = some (Pt p))  (c4 : w.cell? ⟨tx,4,none⟩ = some (.int .i64 9)) 
  (HD : Hid (Calls Ydz 96 #[Pt p] w fun e w' => e = .returned (.int .i64 n) ∧ w = w'))
  (HL : Hid (Calls Ydz 88 #[Pt tx,.int .i64 n,.int .i64 10] w fun e w' => e = .returned (.bool false) ∧ R w')) :
  Calls Ydz 53 #[Pt tx] w fun e w' => e = .returned (.bool false) ∧ R w' := by
 go_enter Yd2,Yd1
 go_wp2_with fail
 refine (HD.out).mono ?_
 rintro e w1 ⟨rfl,rfl⟩
 go_wp2_with fail
 refine (HL.out).mono ?_
 rintro e w2 ⟨rfl,h2⟩
 go_wp2
 go_ret
 exact ⟨rfl,h2⟩
theorem Ybe {p : Nat} {n : Int} (c0 : w.cell? ⟨tx,0,none⟩ = some (Pt p))  (c4 : w.cell? ⟨tx,4,none⟩ = some (.int .i64 9)) 
  (HD : Hid (Calls Ydz 96 #[Pt p] w fun e w' => e = .returned (.int .i64 n) ∧ w = w'))
  (HL : Hid (Calls Ydz 88 #[Pt tx,.int .i64 n,.int .i64 10] w fun e w' => e = .returned (.bool true) ∧ R1 w'))
  (HG : Hid (∀ w1,R1 w1 → Calls Ydz 97 #[Pt tx,.int .i64 16] w1 fun e w' => e = .returned (.bool true) ∧ R w')) :
  Calls Ydz 53 #[Pt tx] w fun e w' => e = .returned (.bool true) ∧ R w' := by
 go_enter Yd2,Yd1
 go_wp2_with fail
 refine (HD.out).mono ?_
 rintro e w1 ⟨rfl,rfl⟩
 go_wp2_with fail
 refine (HL.out).mono ?_
 rintro e w2 ⟨rfl,h2⟩
 go_wp2_with fail
 refine (HG.out w2 h2).mono ?_
 rintro e w3 ⟨rfl,h3⟩
 go_wp2
 go_ret
 exact ⟨rfl,h3⟩
theorem Zbl {ph : Int} (h10 : 10 ≤ ph) (h15 : ph ≤ 15) (c4 : w.cell? ⟨tx,4,none⟩ = some (.int .i64 ph)) 
  (HC : Hid (Calls Ydz 99 #[Pt tx] w fun e w' => e = .returned (.bool b) ∧ R w')) :
  Calls Ydz 53 #[Pt tx] w fun e w' => e = .returned (.bool b) ∧ R w' := by
 have q0 : (ph == 0) = false := by simp; omega
 have q1 : (ph == 1) = false := by simp; omega
 have q2 : (ph == 2) = false := by simp; omega
 have q3 : (ph == 3) = false := by simp; omega
 have q4 : (ph == 4) = false := by simp; omega
 have q5 : (ph == 5) = false := by simp; omega
 have q6 : (ph == 6) = false := by simp; omega
 have q7 : (ph == 7) = false := by simp; omega
 have q8 : (ph == 8) = false := by simp; omega
 have q9 : (ph == 9) = false := by simp; omega
 have q16 : (ph == 16) = false := by simp; omega
 clear h10 h15
 go_enter Yd2,Yd1
 go_wp2_with fail
 refine (HC.out).mono ?_
 rintro e w1 ⟨rfl,h1⟩
 go_wp2
 go_ret
 exact ⟨rfl,h1⟩
end
theorem Zea (P : Ki N ps s) {t : Th} (ht : s.ths[i]? = some t) (hk : k ≤ s.sh.n) (hno : ¬ Has s t k) : ∃ a b,s.locks[k]? = some (a,b) ∧ (b = true → a ≠ (i : Int)) := by
 have hl := P.b.lk.ll
 obtain ⟨⟨a,b⟩,hab⟩ : ∃ p,s.locks[k]? = some p := ⟨_,Yd8 (by omega)⟩
 refine ⟨a,b,hab,fun hb e => ?_⟩
 subst hb
 obtain ⟨j,u,h1,h2,h3⟩ := P.b.lk.l1 k a hab
 have hij : j = i := by omega
 subst hij
 rw [ht] at h2
 cases h2
 exact hno h3
theorem Zu1 {t : Th} (h : MAt own w L s) (ht : s.ths[i]? = some t) (hn : L.cn + 3 ≤ 1000000) {a : Int} (k : Nat) (hl : s.locks[k]? = some (a,b)) (hab : b = true → a ≠ (i : Int)) (ph : Int) :
  Calls Ydz 88 #[Pt (L.tx i),.int .i64 (k : Int),.int .i64 ph] w fun e w' => e = .returned (.bool (!b)) ∧ MQ own w w' L (J7 s i t k ph) 1 0 ∧ w'.cell? ⟨L.tx i,0,none⟩ = some (Pt L.p) ∧ w'.cell? ⟨L.p,1,none⟩ = some (Pt L.ex) ∧ w'.cell? ⟨L.tx i,6,none⟩ = some (.int .i64 t.com.k) := by
 have T := h.ths i t ht
 have hh : Xr s k = b := by simp [Xr,List.getD,hl]
 cases b with
 | false =>
  rw [show J7 s i t k ph = Yk (V5 s i k) i t ph from by simp [J7,hh]]
  refine Zll (R:=fun w1 => ∃ own1,Ext w own own1 ∧ MAt own1 w1 { L with cn := L.cn + 1 } (V5 s i k) ∧ Zb (NG own) w w1) (th:=(i : Int)) (Za T.block rfl) (Za T.block rfl) (Za h.parts rfl) (Ydy fun W hs => (Zhz (h.sm hs).ce (by omega) hl (i : Int)).mono (fun _ w1 q => ⟨q.1,?_,h.held ht hs q.2⟩)) (Ydy fun w1 q => ?_)
  ·obtain ⟨own1,he,hc,ho⟩ := q.2
   have he' : Ext w own own1 := fun b hb => he b (by rw [hs.size]; exact hb)
   have ho' : Zb (Own own 64 68) w w1 := hs.only.trans ho
   exact ⟨own1,he',h.cells he' ho' hc,ho'.mono (fun b _ e => by
    have e1 : 64 ≤ own b ∧ own b < 68 := e
    show own b ≠ 19
    omega)⟩
  ·obtain ⟨own1,e1,m1,o1⟩ := q
   refine (Kz m1 (t:=t) ht ph).mono (fun _ w2 r => ⟨r.1,?_,?_,?_,?_⟩)
   ·refine ⟨own1,_,e1,r.2.1,o1.then r.2.2 (fun b hb e => ?_),rfl,rfl,by simp,by simp⟩
    show own b ≠ 19
    rw [← e1 b hb]; exact e
   ·exact Za (r.2.1.ths i _ (Xo ht _)).block rfl
   ·exact Za r.2.1.parts rfl
   ·exact Za (r.2.1.ths i _ (Xo ht _)).block rfl
 | true =>
  rw [show J7 s i t k ph = s from by simp [J7,hh]]
  refine Zpe (R:=fun w1 => MQ own w w1 L s 1 0 ∧ w1.cell? ⟨L.tx i,0,none⟩ = some (Pt L.p) ∧ w1.cell? ⟨L.p,1,none⟩ = some (Pt L.ex) ∧ w1.cell? ⟨L.tx i,6,none⟩ = some (.int .i64 t.com.k)) (th:=(i : Int)) (Za T.block rfl) (Za T.block rfl) (Za h.parts rfl) (Ydy fun W hs => (Zfe (h.sm hs).ce (i : Int) hl (hab rfl)).mono (fun _ w1 q => ⟨q.1,⟨h.ceq hs q.2 (by omega),?_⟩,h.held ht hs q.2⟩))
  obtain ⟨own1,he,hc,ho⟩ := q.2
  have m := (h.sm hs).cells he ho hc
  exact ⟨Za (m.ths i t ht).block rfl,Za m.parts rfl,Za (m.ths i t ht).block rfl⟩
theorem Zhf : ∀ {l : List Y8},(Y3 l).2 = none → (Y3 l).1 = l
 | [],_ => rfl
 | r :: l,h => by
  unfold Y3 at h ⊢
  cases hq : r.q with
  | cons v q => rw [hq] at h; cases h
  | nil =>
   rw [hq] at h
   simp only at h ⊢
   rw [Zhf h]
structure Yb8 (N : Nat) (ps : List (List Op)) (own : Nat → Nat) (w : World) (L : ML) (s : St) : Prop where
 m : MAt own w L s
 p : Ki N ps s
 t : Zhp s
 n : N ≤ 300
 recs : s.recs.length ≤ 100000
 evs : s.evs.length ≤ 100000
 cn : L.cn + 10 ≤ 1000000
 wn : L.wn < 100000
 err : Err.ErrType w
 o19 : own 0 = 19
 pl : ∀ (i : Nat) (t : Th),s.ths[i]? = some t → t.prog.length ≤ 1000
theorem Zx3 (A : X7 N ps s) (hN : N ≤ 60000) : s.keys.length < 1000000 := by
 have h := Zef s.sh.given (s.keys.map (fun p => p.1)) (by have := A.km; unfold Yo at this; exact this) (fun x hx => by
  have hs := Zqd.2 hx
  obtain ⟨v,hv⟩ := Zqc hs
  exact A.k1 x v hv)
 have := A.giv
 rw [List.length_map] at h
 omega
theorem Zwi {t : Th} (H : Yb8 N ps own w L s) (ht : s.ths[i]? = some t) :
  Calls Ydz 53 #[Pt (L.tx i)] w fun e w' => (∃ b,e = .returned (.bool b)) ∧ MQ own w w' L (Yu s i t) 4 (if t.ph = 4 then 1 else 0) := by
 have h := H.m
 have A := H.p.a
 have hN := H.n
 have hrec := H.recs
 have hevs := H.evs
 have hcn := H.cn
 have hwn := H.wn
 have TA := A.th i t ht
 have T := h.ths i t ht
 have ox := T.ox
 have op := h.op
 have c4 : w.cell? ⟨L.tx i,4,none⟩ = some (.int .i64 t.ph) := Za T.block rfl
 have hi64 := Zat h ht
 have hn1 := A.n.1
 have SH := A.shOk (by omega : N ≤ 60000)
 have PO := A.polOk hN
 have shl : ∀ k : Int,s.sh.shard k < s.sh.n := fun k => Zco hn1 k
 have yes : ∀ {F : FuncId} {args : Array Value} {R R' : World → Prop} {b : Bool},Calls Ydz F args w (fun e w' => e = .returned (.bool b) ∧ R w') → (∀ w',R w' → R' w') → Calls Ydz F args w (fun e w' => (∃ b,e = .returned (.bool b)) ∧ R' w') := fun hh hr => hh.mono fun _ _ r => ⟨⟨_,r.1⟩,hr _ r.2⟩
 have hph := TA.ph
 have hcase : t.ph = 0 ∨ t.ph = 1 ∨ t.ph = 2 ∨ t.ph = 3 ∨ t.ph = 4 ∨ t.ph = 5 ∨ t.ph = 6 ∨ t.ph = 7 ∨ t.ph = 8 ∨ t.ph = 9 ∨ t.ph = 16 ∨ t.ph = 10 ∨ t.ph = 11 ∨ t.ph = 12 ∨ t.ph = 13 ∨ t.ph = 14 ∨ t.ph = 15 := by omega
 have hvI : ∀ {a : Int} {l : List Int},t.vic = a :: l → I64 a := fun {a l} hl => by
  have := TA.vicR a (by rw [hl]; exact List.mem_cons_self)
  have := A.giv
  exact ⟨by omega,by omega⟩
 have hvI2 : t.vic ≠ [] → I64 (t.vic.headD 0) := fun hne => by
  cases hl : t.vic with
  | nil => exact absurd hl hne
  | cons a l => exact hvI hl
 rcases hcase with e | e | e | e | e | e | e | e | e | e | e | e | e | e | e | e | e
 ·rw [e] at c4
  rw [show Yu s i t = Zag s i t from by unfold Yu; rw [if_pos e]]
  exact (s0 c4 (Ydy (Zqg h ht TA.op (by omega) A.cap H.err H.o19))).mono fun _ _ r => ⟨r.1,r.2.more (by omega) (by omega)⟩
 ·rw [e] at c4
  by_cases hf : s.wr.q.length + s.wr.res = s.wr.size
  ·rw [show Yu s i t = Yk s i t 2 from by unfold Yu; rw [if_neg (by omega),if_pos e,if_pos hf]]
   refine yes (Zyz (p:=L.p) (wx:=L.wx) (R1:=fun w1 => MQ own w w1 L s 0 0) (Za T.block rfl) (Za h.parts rfl) c4 (Ydy ((Ybs h.wr hf).mono fun _ w1 r => ?_)) (Ydy fun w1 q => J0 q ht 2)) (fun _ r => r.more (by omega) (by omega))
   obtain ⟨b,r1,r2,r3⟩ := r
   exact ⟨b,r1,r2,(h.old r3).mq⟩
  ·have hroom := H.p.b.room
   rw [show Yu s i t = Yk { s with wr := { s.wr with res := s.wr.res + 1 } } i t 3 from by unfold Yu; rw [if_neg (by omega),if_pos e,if_neg hf]]
   refine yes (Yc0 (p:=L.p) (wx:=L.wx) (R1:=fun w1 => MQ own w w1 L { s with wr := { s.wr with res := s.wr.res + 1 } } 0 0) (Za T.block rfl) (Za h.parts rfl) c4 (Ydy ((Zsp h.wr (by omega)).mono fun _ w1 r => ⟨r.1,?_⟩)) (Ydy fun w1 q => J0 (s:={ s with wr := { s.wr with res := s.wr.res + 1 } }) q ht 3)) (fun _ r => r.more (by omega) (by omega))
   exact ⟨own,L,Yd5 _ _,h.writes (Yd5 _ _) r.2.2 r.2.1,r.2.2.mono (fun b _ e => by have e' : own b = 60 ∨ own b = 61 := e; show own b ≠ 19; omega),rfl,rfl,by omega,by omega⟩
 ·rw [e] at c4
  rw [show Yu s i t = Zhh s i t 1 from by unfold Yu; rw [if_neg (by omega),if_neg (by omega),if_pos e]]
  obtain ⟨a,b,hl,hab⟩ := Zea H.p ht (Yea _) (by have := shl t.com.k; unfold Has; omega)
  exact yes (s2 c4 (Ydy (Zp1 h ht (by omega) hl hab 1))) (fun _ r => r.more (by omega) (by omega))
 ·rw [e] at c4
  rw [show Yu s i t = J7 s i t (s.sh.shard t.com.k) 4 from by unfold Yu; rw [if_neg (by omega),if_neg (by omega),if_neg (by omega),if_pos e]]
  obtain ⟨a,b,hl,hab⟩ := Zea H.p ht (Nat.le_of_lt (shl t.com.k)) (by unfold Has; omega)
  refine yes (s3 (p:=L.p) (ex:=L.ex) (key:=t.com.k) (k:=(s.sh.shard t.com.k : Int)) (Za T.block rfl) (Za h.parts rfl) (Za T.block rfl) c4 (Ydy fun W hs => (Zf9 (h.sm hs).sh t.com.k).mono fun _ w1 r => ⟨r.1,?_⟩) (Ydy fun W hs => (Zu1 (h.sm hs) ht (by omega) _ hl hab 4).mono fun _ w1 r => ⟨r.1,r.2.1.pre hs,r.2.2⟩)) (fun _ r => r.more (by omega) (by omega))
  obtain ⟨m,hm⟩ := r.2
  rw [hm]
  exact ⟨rfl,rfl,rfl,rfl⟩
 ·rw [e] at c4
  rw [show Yu s i t = Zfx s i t from by unfold Yu; rw [if_neg (by omega),if_neg (by omega),if_neg (by omega),if_neg (by omega),if_pos e]]
  obtain ⟨o,ho,hd,hk,h45,hnp⟩ := TA.at_ (by omega)
  have hnpt : ¬ Zu t := by unfold Zu; omega
  obtain ⟨hc,he,hw,_,_⟩ := hnp hnpt
  have hcap := A.cap
  refine yes (s4 c4 (Ydy (Zxa h ht ho SH (fun h2 => ?_) (fun h1 => ?_) hwn A.km (Zx3 A (by omega)) (by omega)))) (fun _ r => r.more (by omega) (by rw [if_pos e]; omega))
  ·rcases hw with a | a | a | a <;> omega
  ·have h1' := Zbp Zbx ht
   rw [Zaw (.inr e) (by omega),← H.p.b.res] at h1'
   omega
 ·rw [e] at c4
  rw [show Yu s i t = Zc2 s i t from by unfold Yu; rw [if_neg (by omega),if_neg (by omega),if_neg (by omega),if_neg (by omega),if_neg (by omega),if_pos e]]
  exact yes (s5 c4 (Ydy (Zop h ht (by omega) (H.p.b.lk.l2 i t _ ht (.inl ⟨.inr e,rfl⟩))))) (fun _ r => r.more (by omega) (by omega))
 ·rw [e] at c4
  have hr := H.p.a.rl
  have hpl : Jd s i < s.rings.length := Qo _ _ (by omega)
  obtain ⟨r,hrr⟩ : ∃ r,s.rings[Jd s i]? = some r := ⟨_,Yd8 hpl⟩
  have hgd : s.rings.getD (Jd s i) ⟨0,[]⟩ = r := by rw [Yeb,hrr]; rfl
  have hst : Yu s i t = Yk { s with rings := s.rings.set (Jd s i) (Xf r t.node).1 } i t (if (Xf r t.node).2 then 16 else 8) := by
   unfold Yu
   rw [if_neg (by omega),if_neg (by omega),if_neg (by omega),if_neg (by omega),if_neg (by omega),if_neg (by omega),if_pos e]
   unfold Zn1
   simp only [hgd]
   cases hb : (Xf r t.node).2 with
   | true => rfl
   | false =>
    have : (Xf r t.node).1 = r := by
     unfold Xf at hb ⊢
     split at hb
     ·rename_i hh; rw [if_pos hh]
     ·cases hb
    have hset : s.rings.set (Jd s i) r = s.rings := by
     apply List.ext_getElem?
     intro j
     rw [List.getElem?_set]
     split
     ·rename_i hj; subst hj; first | exact hrr.symm | (rw [if_pos hpl]; exact hrr.symm)
     ·rfl
    simp only [this,hset]
    rfl
  rw [hst]
  refine yes (s6 (p:=L.p) (rx:=L.rx) (th:=(i : Int)) (nd:=t.node) (b:=(Xf r t.node).2) (R1:=fun w1 => MQ own w w1 L { s with rings := s.rings.set (Jd s i) (Xf r t.node).1 } 0 0) (Za T.block rfl) (Za h.parts rfl) (Za T.block rfl) (Za T.block rfl) c4 (Ydy fun W hs => (Zy4 (h.sm hs).st (i : Int) t.node (Jd s i) rfl r hrr).mono fun _ w1 y => ⟨y.1,?_⟩) (Ydy fun w1 q => J0 (s:={ s with rings := s.rings.set (Jd s i) (Xf r t.node).1 }) q ht _)) (fun _ r => r.more (by omega) (by omega))
  refine MQ.pre hs ⟨own,L,Yd5 _ _,(h.sm hs).stripes (Yd5 _ _) y.2.2 y.2.1,y.2.2.mono (fun b _ e => by have e' : 2000 ≤ own b ∧ own b ≤ 2127 := e; show own b ≠ 19; omega),rfl,rfl,by omega,by omega⟩
 ·rw [e] at c4
  rw [show Yu s i t = Yk { s with status := J5 s.status } i t 8 from by unfold Yu; rw [if_neg (by omega),if_neg (by omega),if_neg (by omega),if_neg (by omega),if_neg (by omega),if_neg (by omega),if_neg (by omega),if_pos e]]
  refine yes (s7 (s:=s.status) (R1:=fun w1 => MQ own w w1 L s 1 0) (R2:=fun w1 => MQ own w w1 L { s with status := J5 s.status } 2 0) rfl c4 (Ydy (Zdq h ht (by omega))) (Ydy fun w1 q => ?_) (Ydy fun w1 q => J0 (s:={ s with status := J5 s.status }) q ht 8)) (fun _ r => r.more (by omega) (by omega))
  obtain ⟨own1,L1,q⟩ := q.bs
  have hn := q.cn
  have z := Zj5 q.mat ht (by omega) (J5 s.status)
  rw [q.tx] at z
  exact z.mono fun _ _ r => ⟨r.1,q.then_mq (k':=1) (m':=0) r.2⟩
 ·rw [e] at c4
  rw [show Yu s i t = Zhh s i t 16 from by unfold Yu; rw [if_neg (by omega),if_neg (by omega),if_neg (by omega),if_neg (by omega),if_neg (by omega),if_neg (by omega),if_neg (by omega),if_neg (by omega),if_pos e]]
  obtain ⟨a,b,hl,hab⟩ := Zea H.p ht (Yea _) (by have := shl t.com.k; unfold Has; omega)
  exact yes (s8 c4 (Ydy (Zp1 h ht (by omega) hl hab 16))) (fun _ r => r.more (by omega) (by omega))
 ·rw [e] at c4
  obtain ⟨a,b,hl,hab⟩ := Zea H.p ht (Yea _) (by have := shl t.com.k; unfold Has; omega)
  have hh : Xr s s.sh.n = b := by simp [Xr,List.getD,hl]
  have LK := Zpd h ht (by omega) s.sh.n hl hab 10
  cases b with
  | true =>
   rw [show Yu s i t = s from by unfold Yu; rw [if_neg (by omega),if_neg (by omega),if_neg (by omega),if_neg (by omega),if_neg (by omega),if_neg (by omega),if_neg (by omega),if_neg (by omega),if_neg (by omega),if_pos e,if_pos hh]]
   have e1 : J7 s i t s.sh.n 10 = s := by simp [J7,hh]
   rw [e1] at LK
   exact yes (Yc1 (p:=L.p) (n:=(s.sh.n : Int)) (Za T.block rfl) c4 (Ydy (Vr h)) (Ydy LK)) (fun _ r => r.more (by omega) (by omega))
  | false =>
   rw [show Yu s i t = Zbb (V5 s i s.sh.n) i t 16 from by unfold Yu; rw [if_neg (by omega),if_neg (by omega),if_neg (by omega),if_neg (by omega),if_neg (by omega),if_neg (by omega),if_neg (by omega),if_neg (by omega),if_neg (by omega),if_pos e,if_neg (by rw [hh]; decide)]]
   have e1 : J7 s i t s.sh.n 10 = Yk (V5 s i s.sh.n) i t 10 := by simp [J7,hh]
   rw [e1] at LK
   refine yes (Ybe (p:=L.p) (n:=(s.sh.n : Int)) (R1:=fun w1 => MQ own w w1 L (Yk (V5 s i s.sh.n) i t 10) 1 0) (Za T.block rfl) c4 (Ydy (Vr h)) (Ydy LK) (Ydy fun w1 q => ?_)) (fun _ r => r)
   obtain ⟨own1,L1,q⟩ := q.bs
   have hn := q.cn
   have z := Zh3 q.mat (Xo (s:=V5 s i s.sh.n) ht { t with ph := 10 }) (by omega) 16
   rw [q.tx] at z
   refine z.mono fun _ _ r => ⟨r.1,?_⟩
   have e2 : Zbb (Yk (V5 s i s.sh.n) i t 10) i { t with ph := 10 } 16 = Zbb (V5 s i s.sh.n) i t 16 := by simp [Zbb,Yk,Zl]
   have r2 := r.2
   rw [e2] at r2
   exact (q.then_mq (k':=2) (m':=0) r2).more (by omega) (by omega)
 ·rw [e] at c4
  obtain ⟨o,ho,_⟩ := TA.at_ (by omega)
  have hlt := Zdb ho
  have hst : Yu s i t = Zl (Z9 s ⟨i,t.op,3,t.com,t.err⟩) i { t with op := t.op + 1,ph := 0 } := by unfold Yu; rw [if_neg (by omega),if_neg (by omega),if_neg (by omega),if_neg (by omega),if_neg (by omega),if_neg (by omega),if_neg (by omega),if_neg (by omega),if_neg (by omega),if_neg (by omega),if_pos e]
  rw [hst]
  refine yes (s16 c4 (Ydy (Zmv h ht (by omega) ?_))) (fun _ r => r.more (by omega) (by omega))
  have := H.pl i t ht
  omega
 ·rw [e] at c4
  have hst : Yu s i t = Zdo s i t := by unfold Yu; rw [if_neg (by omega),if_neg (by omega),if_neg (by omega),if_neg (by omega),if_neg (by omega),if_neg (by omega),if_neg (by omega),if_neg (by omega),if_neg (by omega),if_neg (by omega),if_neg (by omega),if_pos e]
  rw [hst]
  have ST := Ybk h.st
  cases hr : (Y3 s.rings).2 with
  | none =>
   have e1 : Zdo s i t = Yk s i t 11 := by
    unfold Zdo
    cases hq : Y3 s.rings with
    | mk a b => rw [hq] at hr; simp only at hr; rw [hr]
   rw [e1]
   refine yes (Zbl (by omega) (by omega) c4 (Ydy (Zty (p:=L.p) (rx:=L.rx) (R1:=fun w1 => MQ own w w1 L s 0 0) (Za T.block rfl) (Za h.parts rfl) c4 (Ydy (ST.mono fun _ w1 r => ?_)) (Ydy fun w1 q => J0 q ht 11)))) (fun _ r => r.more (by omega) (by omega))
   obtain ⟨r1,r2,r3⟩ := r
   rw [hr] at r1
   rw [Zhf hr] at r2
   exact ⟨r1,own,L,Yd5 _ _,h.stripes (Yd5 _ _) r3 r2,r3.mono (fun b _ e => by have e' : 2000 ≤ own b ∧ own b ≤ 2127 := e; show own b ≠ 19; omega),rfl,rfl,by omega,by omega⟩
  | some v =>
   have e1 : Zdo s i t = Yj { s with rings := (Y3 s.rings).1 } ⟨2,v,0,0⟩ := by
    unfold Zdo
    cases hq : Y3 s.rings with
    | mk a b => rw [hq] at hr; simp only at hr; rw [hr]
   rw [e1]
   obtain ⟨r0,hr0,hv0⟩ := Zcz hr
   have hv := A.rings r0 hr0 v hv0
   refine yes (Zbl (by omega) (by omega) c4 (Ydy (Ztz (p:=L.p) (rx:=L.rx) (v:=v) (R1:=fun w1 => MQ own w w1 L { s with rings := (Y3 s.rings).1 } 0 0) (Za T.block rfl) (Za h.parts rfl) c4 (Ydy (ST.mono fun _ w1 r => ?_)) (Ydy fun w1 q => ?_)))) (fun w' (r : MQ own w w' L (Yj { s with rings := (Y3 s.rings).1 } ⟨2,v,0,0⟩) 0 0) => r.more (by omega) (by omega))
   ·obtain ⟨r1,r2,r3⟩ := r
    rw [hr] at r1
    exact ⟨r1,own,L,Yd5 _ _,h.stripes (Yd5 _ _) r3 r2,r3.mono (fun b _ e => by have e' : 2000 ≤ own b ∧ own b ≤ 2127 := e; show own b ≠ 19; omega),rfl,rfl,by omega,by omega⟩
   ·obtain ⟨own1,L1,q⟩ := q.bs
    have z := Zh6 q.mat (s:={ s with rings := (Y3 s.rings).1 }) ht (by show s.evs.length ≤ 1000000; omega) PO.1 PO.2.1 PO.2.2 ⟨2,v,0,0⟩ (.inr (.inl ⟨rfl,hv.1,hv.2⟩))
    rw [q.tx] at z
    refine z.mono fun _ _ r => ?_
    obtain ⟨u,r1,own3,L3,y,_,_⟩ := r
    exact ⟨u,r1,q.then_mq (k':=0) (m':=0) y.mq⟩
 ·rw [e] at c4
  have hst : Yu s i t = Zft s i t := by unfold Yu; rw [if_neg (by omega),if_neg (by omega),if_neg (by omega),if_neg (by omega),if_neg (by omega),if_neg (by omega),if_neg (by omega),if_neg (by omega),if_neg (by omega),if_neg (by omega),if_neg (by omega),if_neg (by omega),if_pos e]
  rw [hst]
  refine yes (Zbl (by omega) (by omega) c4 (Ydy (d11 c4 (Ydy (Zwl h ht (fun e q hq => ?_) PO.1 PO.2.1 PO.2.2 (by omega) SH.gv))))) (fun _ r => r.more (by omega) (by omega))
  have ev := A.next hq
  refine ⟨ev,?_⟩
  unfold Zga at ev
  unfold I64
  omega
 ·rw [e] at c4
  have hst : Yu s i t = J7 s i t (s.sh.shard (Jy s t)) 13 := by unfold Yu; rw [if_neg (by omega),if_neg (by omega),if_neg (by omega),if_neg (by omega),if_neg (by omega),if_neg (by omega),if_neg (by omega),if_neg (by omega),if_neg (by omega),if_neg (by omega),if_neg (by omega),if_neg (by omega),if_neg (by omega),if_pos e]
  rw [hst]
  have hne := TA.vic (.inl e)
  obtain ⟨a,b,hl,hab⟩ := Zea H.p ht (Nat.le_of_lt (shl (Jy s t))) (by have := shl (Jy s t); unfold Has; omega)
  exact yes (Zbl (by omega) (by omega) c4 (Ydy (d12 c4 (Ydy (Zi1 h ht hne (hvI2 hne))) (Ydy fun W hs => (Zpd (h.sm hs) ht (by omega) _ hl hab 13).mono fun _ _ r => ⟨r.1,r.2.pre hs⟩)))) (fun _ r => r.more (by omega) (by omega))
 ·rw [e] at c4
  have hst : Yu s i t = Zew s i t := by unfold Yu; rw [if_neg (by omega),if_neg (by omega),if_neg (by omega),if_neg (by omega),if_neg (by omega),if_neg (by omega),if_neg (by omega),if_neg (by omega),if_neg (by omega),if_neg (by omega),if_neg (by omega),if_neg (by omega),if_neg (by omega),if_neg (by omega),if_pos e]
  rw [hst]
  have hne := TA.vic (.inr (.inl e))
  exact yes (Zbl (by omega) (by omega) c4 (Ydy (d13 c4 (Ydy (Zqu h ht SH hne (hvI2 hne) (by omega)))))) (fun _ r => r.more (by omega) (by omega))
 ·rw [e] at c4
  have hst : Yu s i t = K3 (Yr s (s.sh.shard (Jy s t))) i { t with vic := t.vic.drop 1 } := by unfold Yu; rw [if_neg (by omega),if_neg (by omega),if_neg (by omega),if_neg (by omega),if_neg (by omega),if_neg (by omega),if_neg (by omega),if_neg (by omega),if_neg (by omega),if_neg (by omega),if_neg (by omega),if_neg (by omega),if_neg (by omega),if_neg (by omega),if_neg (by omega),if_pos e]
  rw [hst]
  have hne := TA.vic (.inr (.inr e))
  obtain ⟨a,l,hl⟩ : ∃ a l,t.vic = a :: l := by
   cases hh : t.vic with
   | nil => exact absurd hh hne
   | cons a l => exact ⟨a,l,rfl⟩
  have V := T.vic
  rw [hl] at V
  obtain ⟨g,off,cap,hvv,hg8,hc⟩ := Zkd V
  have hcap : (a :: l).length ≤ cap := by
   rcases V with ⟨_,h⟩ | ⟨_,_,cap',h1,h2,_⟩
   ·cases h
   ·rw [hvv] at h1
    cases h1
    exact h2
  have hlk : s.locks[s.sh.shard (Jy s t)]? = some ((i : Int),true) := H.p.b.lk.l2 i t _ ht (.inr (.inl ⟨.inr e,rfl⟩))
  have c12 : w.cell? ⟨L.tx i,12,none⟩ = some (.slice (some ⟨g,off,none⟩) (a :: l).length cap) := (Za T.block rfl).trans (by rw [hvv]; rfl)
  refine yes (Zbl (by omega) (by omega) c4 (Ydy (d14 (p:=L.p) (cx:=L.cx) (g:=g) (off:=off) (n:=(a :: l).length) (cap:=cap) (th:=(i : Int)) (k:=(s.sh.shard (Jy s t) : Int)) (R1:=fun w1 => MQ own w w1 L (Yr s (s.sh.shard (Jy s t))) 1 0 ∧ w1.cell? ⟨L.tx i,12,none⟩ = some (.slice (some ⟨g,off,none⟩) (a :: l).length cap)) (by simp) hcap (Za T.block rfl) (Za T.block rfl) (Za h.parts rfl) c4 (Ydy fun W hs => (Zi1 (h.sm hs) ht hne (hvI2 hne)).mono fun _ _ r => r) (Ydy fun W hs => (Zgh (h.sm hs).ce (by omega) hlk).mono fun _ w1 r => ?_) (Ydy fun w1 off' q hoff => ?_)))) (fun w' (r : MQ own w w' L (K3 (Yr s (s.sh.shard (Jy s t))) i { t with vic := t.vic.drop 1 }) 1 0) => r.more (by omega) (by omega))
  ·obtain ⟨own3,he,hcx,ho⟩ := r.2
   have m := h.sm hs
   have T := m.ths i t ht
   have nt : ¬ Own own 64 68 (L.tx i) := fun e => by have e1 : 64 ≤ own (L.tx i) ∧ own (L.tx i) < 68 := e; omega
   have np : ¬ Own own 64 68 L.p := fun e => by have e1 : 64 ≤ own L.p ∧ own L.p < 68 := e; omega
   have mm := m.cells he ho hcx
   have k12 : w1.cell? ⟨L.tx i,12,none⟩ = some (.slice (some ⟨g,off,none⟩) (a :: l).length cap) := Zd (w:=W) ((hs.cell _).trans c12) ho nt
   exact ⟨r.1,⟨h.ceq hs r.2 (Yea _),k12⟩,Zd (w:=W) (Za T.block rfl) ho nt,Zd (w:=W) (Za T.block rfl) ho nt,Zd (w:=W) (Za m.parts rfl) ho np,k12,Zc (mm.ths i t ht).block 12⟩
  ·obtain ⟨q,k12⟩ := q
   obtain ⟨own1,L1,q⟩ := q.bs
   have U := q.mat.ths i t ht
   have hv1 : L1.vv i = .slice (some ⟨g,off,none⟩) (a :: l).length cap := by
    have z := Za (j:=12) (q.cells ht).1 rfl
    rw [k12] at z
    exact (Option.some.inj z).symm
   have V1 := U.vic
   rw [hl,hv1] at V1
   have V2 : Zaa own1 w1 (.slice (some ⟨g,off',none⟩) ((a :: l).length - 1) (cap - 1)) l := by
    rcases V1 with ⟨h0,_⟩ | ⟨g',off1,cap',h1,h2,h3,h4,h5⟩
    ·cases h0
    ·cases h1
     refine .inr ⟨g,off',cap - 1,rfl,by simp at h2 ⊢; omega,h3,h4,fun j z hz => ?_⟩
     rcases hoff with rfl | hone
     ·have := h5 (j + 1) z (by simpa using hz)
      rw [show off + 1 + j = off + (j + 1) from by omega]
      exact this
     ·have : l = [] := by cases l with
       | nil => rfl
       | cons b l => simp at hone
      subst this
      simp at hz
   obtain ⟨L2,z⟩ := q.slice (s:=Yr s (s.sh.shard (Jy s t))) ht V2 (Sm.refl _)
   have y := Zpk z.mq (Xo (s:=Yr s (s.sh.shard (Jy s t))) ht { t with vic := l })
   have e2 : K3 (Zl (Yr s (s.sh.shard (Jy s t))) i { t with vic := l }) i { t with vic := l } = K3 (Yr s (s.sh.shard (Jy s t))) i { t with vic := t.vic.drop 1 } := by
    rw [hl]
    unfold K3 Yk
    simp only [Zix]
    rfl
   rw [e2] at y
   exact y
 ·rw [e] at c4
  have hst : Yu s i t = Zkz s i t := by unfold Yu; rw [if_neg (by omega),if_neg (by omega),if_neg (by omega),if_neg (by omega),if_neg (by omega),if_neg (by omega),if_neg (by omega),if_neg (by omega),if_neg (by omega),if_neg (by omega),if_neg (by omega),if_neg (by omega),if_neg (by omega),if_neg (by omega),if_neg (by omega),if_neg (by omega)]
  rw [hst]
  exact yes (Zbl (by omega) (by omega) c4 (Ydy (d15 c4 (Ydy (Zxs h ht (by omega) (H.p.b.lk.l2 i t _ ht (.inr (.inr ⟨by omega,by omega,rfl⟩))) (H.t i t ht (by omega))))))) (fun _ r => r.more (by omega) (by omega))
def Zio : Option Nat → Int
 | some i => (i : Int)
 | none => -1
theorem Zug (p : Int) (n : Nat) (hn : 0 < n) : (p.tmod (n : Int) + (n : Int)).tmod (n : Int) = (((p % (n : Int)).toNat : Nat) : Int) := by
 have h0 : 0 ≤ p % (n : Int) := Yd7 _ (by omega)
 have h1 : p % (n : Int) < (n : Int) := Yd3 _ (by omega)
 rw [Int.toNat_of_nonneg h0]
 rcases Int.lt_or_le p 0 with hp | hp
 ·have ht : p.tmod (n : Int) = -((-p) % (n : Int)) := by
   have : p = -(-p) := by omega
   rw [this,Int.neg_tmod,Yd0 (by omega)]
   simp
  have hq0 : 0 ≤ (-p) % (n : Int) := Yd7 _ (by omega)
  have hq1 : (-p) % (n : Int) < (n : Int) := Yd3 _ (by omega)
  rw [ht,Yd0 (by omega)]
  rw [Yed]
  rw [Int.emod_eq_emod_iff_emod_sub_eq_zero]
  have := Int.emod_add_mul_ediv (-p) (n : Int)
  have e : -(-p % (n : Int)) - p = (n : Int) * (-p / (n : Int)) := by omega
  rw [e]
  exact Int.mul_emod_right _ _
 ·rw [Yd0 hp,Yd0 (by omega),Yed,Int.emod_emod]
theorem Zwq (p : Int) (n : Nat) (hn : 0 < n) : -(n : Int) < p.tmod (n : Int) ∧ p.tmod (n : Int) < (n : Int) := by
 rcases Int.lt_or_le p 0 with hp | hp
 ·have ht : p.tmod (n : Int) = -((-p) % (n : Int)) := by
   have : p = -(-p) := by omega
   rw [this,Int.neg_tmod,Yd0 (by omega)]
   simp
  have hq0 : 0 ≤ (-p) % (n : Int) := Yd7 _ (by omega)
  have hq1 : (-p) % (n : Int) < (n : Int) := Yd3 _ (by omega)
  omega
 ·rw [Yd0 hp]
  have hq0 : 0 ≤ p % (n : Int) := Yd7 _ (by omega)
  have hq1 : p % (n : Int) < (n : Int) := Yd3 _ (by omega)
  omega
theorem Zrn (p : Int) (left : List Bool) (lb cap : Nat) (w : World) (hn : left.length ≤ 1000) (hc : ∀ i b,left[i]? = some b → w.cell? ⟨lb,i,none⟩ = some (.bool b)) :
  Calls Ydz 26 #[.int .i64 p,.slice (some ⟨lb,0,none⟩) left.length cap] w fun e w' => e = .returned (.int .i64 (Zio (Ql p left))) ∧ w = w' := by
 have HN : Hid (Ql p left = if left.length = 0 then none else Zbu left (p % (left.length : Int)).toNat left.length) := Ydy rfl
 by_cases h0 : left.length = 0
 ·have hz : ((left.length : Int) == 0) = true := by simp [h0]
  rw [if_pos h0] at HN
  generalize Ql p left = res at *
  have := HN.out
  subst this
  clear HN hc hn
  generalize left.length = n at *
  go_enter Yef,Yee
  go_wp2
  go_ret
  exact ⟨rfl,rfl⟩
 ·have hz : ((left.length : Int) == 0) = false := beq_eq_false_iff_ne.2 (by omega)
  rw [if_neg h0] at HN
  generalize Ql p left = res at *
  have HC := Ydy hc
  have HI : Hid (∀ i,i < left.length → ∃ b,left[i]? = some b) := Ydy (fun i h => ⟨_,Yd8 h⟩)
  have hF := Zug p left.length (by omega)
  obtain ⟨hr1,hr2⟩ := Zwq p left.length (by omega)
  have hf0 : (p % (left.length : Int)).toNat < left.length := by
   have hq0 : 0 ≤ p % (left.length : Int) := Yd7 _ (by omega)
   have hq1 : p % (left.length : Int) < (left.length : Int) := Yd3 _ (by omega)
   omega
  have HM : Hid (∀ k,Zbu left (p % (left.length : Int)).toNat (k + 1) = if left.getD (((p % (left.length : Int)).toNat + (left.length - (k + 1))) % left.length) false then some (((p % (left.length : Int)).toNat + (left.length - (k + 1))) % left.length) else Zbu left (p % (left.length : Int)).toNat k) := Ydy (fun k => rfl)
  have HZ : Hid (Zbu left (p % (left.length : Int)).toNat 0 = none) := Ydy rfl
  have HG : Hid (∀ i b,left[i]? = some b → left.getD i false = b) := Ydy (fun i b h => by rw [Yeb,h]; rfl)
  generalize (p % (left.length : Int)).toNat = f at *
  generalize Zbu left f = sc at *
  clear hc
  generalize left.length = n at *
  have hnz : ((n : Int) = 0) = False := by simp; omega
  have IW0 := Yd9 (p.tmod (n : Int)) (by omega)
  have IW1 := Yd9 (p.tmod (n : Int) + (n : Int)) (by omega)
  have IW2 := Yd9 ((f : Int)) (by omega)
  go_enter Yef,Yee
  go_wp2
  go_loop [21] (fun i => ∃ k : Nat,k ≤ n ∧ i = .int .i64 (k : Int) ∧ res = sc (n - k)) (fun i => n - (intOf i).toNat)
  case atStart => exact ⟨0,Nat.zero_le _,rfl,by rw [Nat.sub_zero]; exact HN.out⟩
  case round =>
   obtain ⟨k,hk,rfl,hres⟩ := hrel
   by_cases hlt : k < n
   ·have hkb : decide ((k : Int) < (n : Int)) = true := by simp; omega
    have hM := HM.out (n - (k + 1))
    rw [show n - (k + 1) + 1 = n - k from by omega,← hres,show n - (n - k) = k from by omega] at hM
    have hat : (f + k) % n < n := Nat.mod_lt _ (by omega)
    obtain ⟨b,hb⟩ := HI.out _ hat
    rw [HG.out _ _ hb] at hM
    have cb := HC.out _ _ hb
    have T : ((f : Int) + (k : Int)).tmod (n : Int) = (((f + k) % n : Nat) : Int) := by
     rw [Yd0 (by omega),Int.natCast_emod,Int.natCast_add]
    have IW3 := Yd9 ((f : Int) + (k : Int)) (by omega)
    generalize (f + k) % n = at_ at *
    have IW4 := Yd9 (at_ : Int) (by omega)
    clear hb
    cases b
    ·have hM2 := Ydy hM
     clear hM hres
     go_wp2
     go_round
     case rel => exact ⟨k + 1,by omega,by go_num,by have := hM2.out; rwa [if_neg (by decide)] at this⟩
     case measure => simp [intOf]; omega
    ·rw [if_pos rfl] at hM
     subst hM
     clear hres
     go_wp2
     go_ret
     exact ⟨rfl,rfl⟩
   ·have hke : k = n := by omega
    subst hke
    rw [Nat.sub_self] at hres
    have hz0 := HZ.out
    rw [hz0] at hres
    subst hres
    go_wp2
    go_ret
    exact ⟨rfl,rfl⟩
section
attribute [local go_sem] World.setCell_drew Zg Zf
def Yd (own : Nat → Nat) (w : World) (lb e size k : Nat) (xs : List Value) (v : Value) (wr : World) : Prop := ∃ own',Ext w own own' ∧ Row own' lb wr e size v k xs ∧ Zb No w wr ∧ ∀ b,v.ownBlock = some b → w.heap.size ≤ b
theorem Yd.nil (own : Nat → Nat) (w : World) (lb e size : Nat) (h : Zb No w wr) : Yd own w lb e size 0 [] (.slice none 0 0) wr := ⟨own,Yd5 _ _,Row.nil _ _ _ _ _,h,fun b hb => by simp [Value.ownBlock] at hb⟩
theorem Yd.only {e size : Nat} (h : Yd own w lb e size k xs v wr) : Zb No w wr := by
 obtain ⟨_,_,_,h,_⟩ := h
 exact h
theorem Yd.app {e size : Nat} (h : Yd own w lb e size k xs v wr) : ∃ own',(∀ W,Zb No wr W → Row own' lb W e size v k xs) ∧ ∀ W w4 g cap xs',Zb No wr W → Row (ext own' W.heap.size lb) lb w4 e size (.slice (some ⟨g,0,none⟩) (k + 1) cap) (k + 1) xs' → W.grownBy w4 v.ownBlock → (v.ownBlock = some g ∨ g = W.heap.size) → Yd own w lb e size (k + 1) xs' (.slice (some ⟨g,0,none⟩) (k + 1) cap) w4 := by
 obtain ⟨own',h1,h2,h3,h4⟩ := h
 refine ⟨own',fun W hW => h2.kept (Yd5 _ _) hW (fun _ _ _ h => h),fun W w4 g cap xs' hW hR hg hor => ⟨ext own' W.heap.size lb,fun b hb => ?_,hR,?_,fun b hb => ?_⟩⟩
 ·have := h3.size
  have := hW.size
  rw [Zz (by omega)]
  exact h1 b hb
 ·have hWw := h3.trans hW
  exact ⟨hg.os.trans hWw.os,hg.tape.trans hWw.tape,hg.output.trans hWw.output,Nat.le_trans hWw.size hg.size,fun b hb hn => (hg.block b (Nat.lt_of_lt_of_le hb hWw.size) (fun e => by have := h4 b e.symm; omega)).trans (hWw.block b hb hn)⟩
 ·simp only [Value.ownBlock,Option.some.injEq] at hb
  subst hb
  rcases hor with e | e
  ·exact h4 _ e
  ·have := h3.size
   have := hW.size
   omega
def Vc (l : List Bool) : List Value := l.map Value.bool
theorem Zra (own : Nat → Nat) {x n : Nat} {tx : Nat → Nat} {op ln : Nat → Nat} (hx1 : w.cell? ⟨x,1,none⟩ = some (.slice (some ⟨g,0,none⟩) n cap)) (hn : n ≤ 64) (hg : ∀ i,i < n → w.cell? ⟨g,i,none⟩ = some (Pt (tx i))) (ht : ∀ i,i < n → w.cell? ⟨tx i,3,none⟩ = some (.int .i64 (op i : Int)) ∧ ∃ a c,w.cell? ⟨tx i,2,none⟩ = some (.slice a (ln i) c)) :
  Calls Ydz 27 #[Pt x] w fun e w' => ∃ v,e = .returned v ∧ Yd own w 10 4 1 n (Vc ((Yec n).map fun i => decide (op i < ln i))) v w' := by
 have HG := Ydy hg
 have HT := Ydy ht
 have H0 : Hid (Yd own w 10 4 1 0 (Vc ((Yec 0).map fun i => decide (op i < ln i))) (.slice none 0 0) w) := Ydy (Yd.nil own w 10 4 1 (Zb.refl _ _))
 clear hg ht
 go_enter Tryz.func27,Tryz.ntmps27
 go_wp2
 go_loopw [3,11] (fun v i wr => ∃ k : Nat,k ≤ n ∧ i = .int .i64 (k : Int) ∧ Yd own w 10 4 1 k (Vc ((Yec k).map fun i => decide (op i < ln i))) v wr) (fun _ i _ => n - (intOf i).toNat)
 case atStart => exact ⟨0,Nat.zero_le _,rfl,H0.out⟩
 case round =>
  obtain ⟨k,hk,rfl,hG⟩ := hrel
  by_cases hlt : k < n
  ·have hkb : decide ((k : Int) < (n : Int)) = true := by simp; omega
   have hk0 : (0 : Int) ≤ (k : Int) := by omega
   have hk1 : (k : Int) < (n : Int) := by omega
   have ho := hG.only
   have q1 := Zd (HG.out k hlt) ho (fun h => h)
   obtain ⟨q3,a,c,q2⟩ := HT.out k hlt
   have Q3 := Ydy q3
   have Q2 := Ydy q2
   replace q3 := Zd q3 ho (fun h => h)
   replace q2 := Zd q2 ho (fun h => h)
   obtain ⟨own',hA,hB⟩ := hG.app
   have HA := Ydy (fun o => hA _ (((Zb.refl No wr).drew).alloc o))
   have HB := Ydy (fun (o : Obj) (w4 : World) (g4 cap4 : Nat) (xs' : List Value) (h1 : Row (ext own' (wr.heap.size + 1) 10) 10 w4 4 1 (.slice (some ⟨g4,0,none⟩) (k + 1) cap4) (k + 1) xs') (h2 : (wr.drew.alloc o).grownBy w4 u3.ownBlock) (h3 : u3.ownBlock = some g4 ∨ g4 = wr.heap.size + 1) => hB (wr.drew.alloc o) w4 g4 cap4 xs' (((Zb.refl No wr).drew).alloc o) (by simpa using h1) h2 (by simpa using h3))
   have hn1 : tx k ≠ wr.heap.size := Nat.ne_of_lt (World.block_lt_of_cell? wr _ q3)
   have hn2 := Ne.symm hn1
   clear hA hB hG ho hk0
   go_wp2
   go_region_held3 (fun w' => w'.cell? ⟨tx k,3,none⟩ = some (.int .i64 (op k : Int)) ∧ w'.cell? ⟨tx k,2,none⟩ = some (.slice a (ln k) c)) (go_keep) (first | (refine Jx (by rfl) _ _ _ (by rfl) Yag (by rfl) (HA.out _) (B:=wr.heap.size) (c:=1) (cs:=#[.bool (decide (op k < ln k))]) (tb:=4) (fr:=(0,0)) (by rfl) (Zh wr.drew _) (by rfl) (by simp [Value.oneCell']) (by omega) (wr.heap.size + 1) (by simp) ?_; intro g4 cap4 w4 r4 hg4 hor hsz; have R4 := Ydy (HB.out _ _ _ _ _ r4 hg4 hor); have z3 := Zd Q3.out R4.out.only (fun h => h); have z2 := Zd Q2.out R4.out.only (fun h => h); clear r4 hg4 hor hsz))
   go_wp2
   go_roundw
   case rel =>
    refine ⟨k + 1,by omega,by go_num,?_⟩
    have e : Vc ((Yec (k + 1)).map fun i => decide (op i < ln i)) = Vc ((Yec k).map fun i => decide (op i < ln i)) ++ [.bool (decide (op k < ln k))] := by
     simp only [Vc,List.range_succ,List.map_append,List.map_cons,List.map_nil]
    rw [e]
    exact R4.out
   case measure => simp [intOf]; omega
  ·have hkn : k = n := by omega
   subst hkn
   have hG' := Ydy hG
   clear hG
   go_wp2
   go_ret
   exact ⟨_,rfl,hG'.out⟩
theorem Znz {x n tk : Nat} (hx1 : w.cell? ⟨x,1,none⟩ = some (.slice (some ⟨g,0,none⟩) n cap)) (hk : k < n) (hg : w.cell? ⟨g,k,none⟩ = some (Pt tk)) (HC : Hid (Calls Ydz 53 #[Pt tk] w fun e w' => (∃ b,e = .returned (.bool b)) ∧ R w')) :
  Calls Ydz 28 #[Pt x,.int .i64 (k : Int)] w fun e w' => (∃ b,e = .returned (.bool b)) ∧ R w' := by
 have h0 : ¬ ((k : Int) < 0) := by omega
 have h0' : (0 : Int) ≤ (k : Int) := by omega
 have h1 : (k : Int) < (n : Int) := by omega
 have h2 : ¬ ((n : Int) ≤ (k : Int)) := by omega
 go_enter Tryz.func28,Tryz.ntmps28
 go_wp2_with fail
 refine (HC.out).mono ?_
 rintro e w1 ⟨⟨b,rfl⟩,h⟩
 go_wp2
 go_ret
 exact ⟨⟨b,rfl⟩,h⟩
theorem Zvo (p : Int) (w : World) : Calls Ydz 26 #[.int .i64 p,.slice none 0 0] w fun e w' => e = .returned (.int .i64 (-1)) ∧ w = w' := by
 go_enter Yef,Yee
 go_wp2
 go_ret
 exact ⟨rfl,rfl⟩
theorem Zip {W : World} {left : List Bool} (h : Yd own w lb 4 1 left.length (Vc left) v W) (hn : left.length ≤ 1000) (p : Int) : Calls Ydz 26 #[.int .i64 p,v] W fun e w' => e = .returned (.int .i64 (Zio (Ql p left))) ∧ W = w' := by
 obtain ⟨own',_,h2,_,_⟩ := h
 rcases h2.form with ⟨rfl,h0,_⟩ | ⟨g,cap,rfl,_,_,_,_,_,hc⟩
 ·have hl : left = [] := List.length_eq_zero_iff.1 h0
  subst hl
  exact Zvo p W
 ·exact Zrn p left g cap W hn (fun i b hb => hc i _ (by unfold Vc; rw [List.getElem?_map,hb]; rfl))
end
end Go.Proofs.YtdkhbegheognnaaGreatDoor.W

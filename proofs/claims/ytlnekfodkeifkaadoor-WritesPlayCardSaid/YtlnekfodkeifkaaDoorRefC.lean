/- Commit of the reference's buffer. Conditions: the pointer leads to such a buffer, whose numbers are of everyday size. -/
import Derived.Test.YtlnekfodkeifkaaDoorRefBuf
import Derived.Test.YtlnekfodkeifkaaDoorInts
import Derived.Deep.RegionLaw
namespace Go.Proofs.YtlnekfodkeifkaaDoor.W
open Go.RowKit Go.Maps Go.Proofs.YtlnekfodkeifkaaDoorW.PrintLast Go.Proofs.YtlnekfodkeifkaaDoorW.PrintWords Go.Proofs.YtlnekfodkeifkaaDoor.OC
attribute [local go_sem] World.setCell_drew
set_option linter.unusedSimpArgs false
set_option linter.unusedVariables false

theorem rcommit_none {B g : Nat} {N : Int} {L : List Ev} {A : Option Addr} {c : Nat} {w : World} (h : RBuf w B g N L 0 A c) (e : Ev) :
    Calls Tryd.prog 22 #[.pointer (some ⟨g, 0, none⟩), evV e] w fun r w' => r = .returned (.int .i64 3) ∧ Below w.heap.size w w' := by
  have hk := h.kept ((Only.refl (fun _ => False) w).alloc (EvO e)) (fun _ _ h => h)
  obtain ⟨c0, c1, c2⟩ := cells3 hk.block
  unfold EvO at c0 c1 c2
  clear h hk c0 c1
  unfold evV
  go_enter Tryd.func22, Tryd.ntmps22
  go_wp2
  go_ret
  exact ⟨rfl, (Below.refl _ _).alloc (Nat.le_refl _) _⟩
theorem evC_one (e : Ev) : ∀ u ∈ evC e, u.oneCell' = true := by
  intro u h
  simp only [evC, List.mem_cons, List.not_mem_nil, or_false] at h
  rcases h with rfl | rfl | rfl | rfl <;> rfl
theorem heap_alloc_old {w : World} {k : Nat} {o : Obj} (h : w.heap[k]? = some o) (o' : Obj) : (w.alloc o').heap[k]? = some o := by rw [RowKit.Below.heap_alloc w o' k (lt_block h)]; exact h
/-- Behind an append: a block that is not the row's. -/
theorem behind {W w' : World} {row : Option Nat} {g : Nat} {v0 v1 v2 : Value} {t : TypeId} (hg : W.grownBy w' row) (hb : W.heap[g]? = some (.cells #[v0, v1, v2] t (0, 0))) (hne : some g ≠ row) :
    w'.cell? ⟨g, 1, none⟩ = some v1 ∧ w'.frozen? ⟨g, 1, none⟩ = false ∧ w'.heap[g]? = some (.cells #[v0, v1, v2] t (0, 0)) := by
  have h := (hg.block g (lt_block hb) hne).trans hb
  exact ⟨(cells3 h).2.1, free3 h 1, h⟩
theorem own_map (A : Option Addr) (n c : Nat) : (Value.slice A n c).ownBlock = A.map (·.block) := by cases A <;> rfl
theorem only_through {w w2 W w' : World} {g n c : Nat} {A : Option Addr} (h1 : Only (fun k => k = g) w w2) (h2 : Only (fun _ => False) w2 W) (h3 : W.grownBy w' (Value.slice A n c).ownBlock) : Only (RB g A) w w' := by
  refine (h1.mono fun k hk => Or.inl hk).trans ((h2.mono fun k hk => hk.elim).trans ((Only.row h3).mono fun k hk => Or.inr ?_))
  rw [← own_map A n c]; exact hk
theorem commit_fin {w w' : World} {B g : Nat} {N R : Int} {L : List Ev} {A : Option Addr} {c gg cap : Nat} {e : Ev} (hb : w'.heap[g]? = some (.cells #[.int .i64 N, .slice A L.length c, .int .i64 (R - 1)] 46 (0, 0)))
    (ho : w'.ownsRow B 32 4 (.slice (some ⟨gg, 0, none⟩) (L.length + 1) cap) (L.length + 1) (flat L ++ evC e)) (hB : B ≤ g) (hO : Only (RB g A) w w') :
    ∃ A' c', RBuf (w'.setCell ⟨g, 1, none⟩ (.slice (some ⟨gg, 0, none⟩) (L.length + 1) cap)) B g N (L ++ [e]) (R - 1) A' c' ∧ Only (RB g A) w (w'.setCell ⟨g, 1, none⟩ (.slice (some ⟨gg, 0, none⟩) (L.length + 1) cap)) := by
  refine ⟨some ⟨gg, 0, none⟩, cap, ⟨?_, ?_, hB⟩, hO.setCell (p := ⟨g, 1, none⟩) (Or.inl rfl) _⟩
  · rw [List.length_append]
    exact store5 hb 1 _
  · rw [List.length_append, flat_snoc]
    refine own_kept ho ((Only.refl (fun k => k = g) _).setCell (p := ⟨g, 1, none⟩) rfl _) (fun k hk e => ?_)
    subst e
    exact own_ne ho hb (by decide) (by rw [own_map]; exact hk.symm)
set_option maxRecDepth 100000 in
set_option maxHeartbeats 2000000 in
theorem rcommit_ok {B g : Nat} {N : Int} {L : List Ev} {R : Int} {A : Option Addr} {c : Nat} {w : World} (h : RBuf w B g N L R A c) (hB : B ≤ w.heap.size) (hL : L.length ≤ 100000) (h0 : 0 < R) (h1 : R ≤ 100000) (e : Ev) :
    Calls Tryd.prog 22 #[.pointer (some ⟨g, 0, none⟩), evV e] w fun r w' => r = .returned (.int .i64 0) ∧ ∃ A' c', RBuf w' B g N (L ++ [e]) (R - 1) A' c' ∧ Only (RB g A) w w' := by
  obtain ⟨i0, hi, hz0, hz1, hz2⟩ := info_parts infoEv
  have hb : (R == 0) = false := beq_eq_false_iff_ne.2 (by omega)
  have hbl := lt_block h.block
  have hne : w.heap.size ≠ g := Nat.ne_of_gt hbl
  have hne' : g ≠ w.heap.size := Nat.ne_of_lt hbl
  have hk := h.kept ((Only.refl (fun _ => False) w).alloc (EvO e)) (fun _ _ h => h)
  obtain ⟨c0, c1, c2⟩ := cells3 hk.block
  have f2 := free3 hk.block 2
  unfold EvO at c0 c1 c2 f2
  have HK := Lib.hid hk
  have H := Lib.hid h
  clear h hk c0
  unfold evV
  go_enter Tryd.func22, Tryd.ntmps22
  go_wp2
  generalize hw2 : ((w.setCell ⟨g, 2, none⟩ (.int .i64 (R - 1))).alloc (.cells #[.int .i64 e.deed, .int .i64 e.node, .int .i64 e.key, .int .i64 e.weight] 32)) = w2
  have hO : Only (fun k => k = g) w w2 := by rw [← hw2]; exact ((Only.refl (fun k => k = g) _).setCell (p := ⟨g, 2, none⟩) rfl _).alloc _
  have hblk : w2.heap[g]? = some (.cells #[.int .i64 N, .slice A L.length c, .int .i64 (R - 1)] 46 (0, 0)) := by
    rw [← hw2, RowKit.Below.heap_alloc _ _ g (by simpa using hbl)]
    exact store5 H.out.block 2 _
  have hsz : w2.heap.size = w.heap.size + 1 := by rw [← hw2]; simp
  have hbox : w2.heap[w.heap.size]? = some (.cells #[.int .i64 e.deed, .int .i64 e.node, .int .i64 e.key, .int .i64 e.weight] 32 (0, 0)) := by
    rw [← hw2]
    have := heapNew (w.setCell ⟨g, 2, none⟩ (.int .i64 (R - 1))) (.cells #[.int .i64 e.deed, .int .i64 e.node, .int .i64 e.key, .int .i64 e.weight] 32)
    simpa using this
  have hown : w2.ownsRow B 32 4 (.slice A L.length c) L.length (flat L) := own_kept H.out.own hO (fun k hk e => by
    subst e
    exact own_ne H.out.own H.out.block (by decide) (by cases A <;> simp_all [Value.ownBlock]))
  obtain ⟨-, k1, -⟩ := cells3 hblk
  have g1 := free3 hblk 1
  have x0 : w2.cell? ⟨w.heap.size, 0, none⟩ = some (.int .i64 e.deed) := by simp [World.cell?, hbox]
  have x1 : w2.cell? ⟨w.heap.size, 1, none⟩ = some (.int .i64 e.node) := by simp [World.cell?, hbox]
  have x2 : w2.cell? ⟨w.heap.size, 2, none⟩ = some (.int .i64 e.key) := by simp [World.cell?, hbox]
  have x3 : w2.cell? ⟨w.heap.size, 3, none⟩ = some (.int .i64 e.weight) := by simp [World.cell?, hbox]
  have hg2 : g < w2.heap.size := lt_block hblk
  have hg3 : g ≠ w2.heap.size := Nat.ne_of_lt hg2
  have hg4 : w2.heap.size ≠ g := Nat.ne_of_gt hg2
  have OW := Lib.hid hown
  have ON := Lib.hid hO
  have BK := Lib.hid hblk
  have HSZ := Lib.hid hsz
  have HBS : B ≤ w2.heap.size := by omega
  clear hw2 hown hO hblk hsz hbox c1 c2 f2 HK
  have ne1 : some g ≠ (Value.slice A L.length c).ownBlock := own_ne OW.out BK.out (by decide)
  have NE := Lib.hid ne1
  clear ne1
  go_region_law ((refine step_append_lies _ (by rfl) (.tmp 21) (.tmp 23) 42 (by rfl) B 32 i0 (.agg #[.int .i64 0, .int .i64 0, .int .i64 0, .int .i64 0]) 4 32 Tryd.underlying42 hi hz0 hz1 hz2 (by rfl) (by decide) (.slice A L.length c) L.length (flat L) (by rfl) (by first | exact OW.out.drew.alloc _ | exact (OW.out.alloc _).drew) ⟨w2.heap.size, 0, none⟩ 1 1 (evC e) (by rfl) (by rfl) (World.news_of_block (cs := #[.int .i64 e.deed, .int .i64 e.node, .int .i64 e.key, .int .i64 e.weight]) (t := 32) (fr := (0, 0)) (heap_alloc_new w2 _)) (evC_one e) (by decide) (by unfold maxLen; omega) (by omega) (by simp; omega) (w2.heap.size + 1) (by simp) ?_; intro gg cap w' hown hgrow hat hlt; have q := behind hgrow (heap_alloc_old BK.out _) NE.out; have q1 := q.1; have q2 := q.2.1; have Q := Lib.hid q.2.2; clear q; have OO := Lib.hid hown; have GG := Lib.hid (only_through ON.out (by first | exact ((Only.refl _ _).alloc _).drew | exact ((Only.refl _ _).drew).alloc _) hgrow); clear hown hgrow hat hlt))
  all_goals
    go_wp2
    go_ret
    exact ⟨rfl, commit_fin Q.out OO.out H.out.base GG.out⟩
end Go.Proofs.YtlnekfodkeifkaaDoor.W

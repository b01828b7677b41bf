/- Take of the reference's buffer. Conditions: the pointer leads to such a buffer, whose numbers are of everyday size. -/
import Derived.Test.YtlnekfodkeifkaaDoorRefC
import Derived.Test.YtlnekfodkeifkaaDoorRefW
import Derived.Maps.AppendAt
import Derived.Deep.DeepCutAuto
import Derived.Deep.CutBlock
namespace Go.Proofs.YtlnekfodkeifkaaDoor.W
open Go.RowKit Go.Maps Go.Proofs.YtlnekfodkeifkaaDoorW.PrintLast Go.Proofs.YtlnekfodkeifkaaDoorW.PrintWords Go.Proofs.YtlnekfodkeifkaaDoor.OC
attribute [local go_sem] World.setCell_drew
set_option linter.unusedSimpArgs false
set_option linter.unusedVariables false

set_option maxRecDepth 100000 in
theorem rtake_none {B g : Nat} {N : Int} {R : Int} {A : Option Addr} {c : Nat} {w : World} (h : RBuf w B g N [] R A c) :
    Calls Tryd.prog 24 #[.pointer (some ⟨g, 0, none⟩)] w fun r w' => r = .returned (.tuple #[evV evZero, .bool false]) ∧ Below w.heap.size w w' := by
  have hk := h.kept ((Only.refl (fun _ => False) w).alloc (.cells #[.int .i64 0, .int .i64 0, .int .i64 0, .int .i64 0] 32)) (fun _ _ h => h)
  obtain ⟨c0, c1, c2⟩ := cells3 hk.block
  rw [List.length_nil] at c1
  have hbl := lt_block h.block
  have hne : w.heap.size ≠ g := Nat.ne_of_gt hbl
  have hne' : g ≠ w.heap.size := Nat.ne_of_lt hbl
  clear hk c0 c2 h
  go_enter Tryd.func24, Tryd.ntmps24
  go_wp2
  refine bodyPost_ret (v := .tuple #[evV evZero, .bool false]) (by simp [results, Tryd.results24, go_sem, evV, evZero]) rfl ⟨rfl, ?_⟩
  first | exact (Below.refl _ _).alloc (Nat.le_refl _) _ | exact ((((((Below.refl _ _).alloc (Nat.le_refl _) _).setCell (Nat.le_refl _) _).setCell (Nat.le_refl _) _).setCell (Nat.le_refl _) _).setCell (Nat.le_refl _) _)
theorem cut1 (r n c : Nat) : ∃ AD : Addr, (∀ W : World, (Instr.slice 42 (.slice (some ⟨r, 0, none⟩) (n + 1) c) (some (.int .i64 1)) none none).run Tryd.prog W = .ok (.slice (some AD) n (c - 1)) W) ∧ (AD = ⟨r, 4, none⟩ ∨ (c = 1 ∧ AD = ⟨r, 0, none⟩)) := by
  obtain ⟨i0, hi, hz0, hz1, hz2⟩ := info_parts infoEv
  refine ⟨if c = 1 then ⟨r, 0, none⟩ else ⟨r, 4, none⟩, fun W => ?_, ?_⟩
  · have hel : Tryd.prog.elem 42 = 32 := by simp [Program.elem, Tryd.underlying42]
    have hu : Tryd.prog.underlying 42 = some (.slice (Tryd.prog.elem 42)) := by rw [hel]; exact Tryd.underlying42
    rw [run_slice_l W 42 (some ⟨r, 0, none⟩) (n + 1) c hu .i64 1 (by omega) (by omega), hel]
    simp [sizeOf, typeInfo, hi, hz1, sliced, Result.andThen]
    by_cases h : c = 1
    · simp [h]
    · rw [if_neg h, if_neg h, add_plain]
  · by_cases h : c = 1
    · exact .inr ⟨h, if_pos h⟩
    · exact .inl (if_neg h)
theorem add_at (b o j : Nat) : (⟨b, o, none⟩ : Addr).add j = ⟨b, o + j, none⟩ := by
  unfold Addr.add
  split
  · rename_i h; subst h; rfl
  · rfl
theorem flat_tail {w W : World} {B g : Nat} {N : Int} {e : Ev} {L : List Ev} {R : Int} {r c : Nat} {AD : Addr} (h : RBuf w B g N (e :: L) R (some ⟨r, 0, none⟩) c) (ho : Only (fun _ => False) w W) (hA : AD = ⟨r, 4, none⟩ ∨ (c = 1 ∧ AD = ⟨r, 0, none⟩)) :
    ∀ (j : Nat) (u : Value), (flat L)[j]? = some u → W.cell? (AD.add j) = some u := by
  intro j u hj
  rcases hA with rfl | ⟨hc, rfl⟩
  · have hj' : (flat (e :: L))[4 + j]? = some u := by
      rw [flat, List.getElem?_append_right (by simp [evC])]
      simpa [evC] using hj
    have := h.own.cells (g := r) rfl (4 + j) u hj'
    rw [add_plain] at this
    rw [add_at]
    exact cell_kept this ho (fun h => h)
  · have : L = [] := by
      rcases h.own.2 with ⟨_, hz⟩ | ⟨g', cap, cur, e1, _, _, hl, _⟩
      · simp at hz
      · injection e1 with _ _ e3
        rw [List.length_cons] at hl
        exact List.eq_nil_of_length_eq_zero (by omega)
    subst this
    simp [flat] at hj
theorem take_fin {w w' W : World} {B g : Nat} {N R : Int} {e : Ev} {L : List Ev} {r c : Nat} {v : Value} (h : RBuf w B g N (e :: L) R (some ⟨r, 0, none⟩) c) (hW : Only (fun _ => False) w W) (b0 : Nat) (hb0 : w.heap.size ≤ b0)
    (hg : W.grownBy w' (some b0)) (hown : w'.ownsRow B 32 4 v L.length (flat L)) : ∃ A' c', v = .slice A' L.length c' ∧ Only (fun k => k = b0) w w' ∧ w'.ownsRow B 32 4 (.slice A' L.length c') L.length (flat L) ∧ w'.heap[g]? = some (.cells #[.int .i64 N, .slice (some ⟨r, 0, none⟩) (e :: L).length c, .int .i64 R] 46 (0, 0)) := by
  have hO : Only (fun k => k = b0) w w' := (hW.mono fun k hk => hk.elim).trans ((Only.refl (fun k => k = b0) _).grown hg rfl)
  have hbl := lt_block h.block
  have hblk := (hO.block g hbl (by omega)).trans h.block
  rcases hown.2 with ⟨rfl, hz⟩ | ⟨gg, cap, cur, rfl, _⟩
  · refine ⟨none, 0, by rw [hz], hO, ?_, hblk⟩
    rw [hz] at hown ⊢; exact hown
  · exact ⟨_, _, rfl, hO, hown, hblk⟩
theorem take_end {w w' : World} {B g : Nat} {N R : Int} {L : List Ev} {A A' : Option Addr} {len c c' : Nat} (b0 : Nat) (hb0 : w.heap.size ≤ b0) (hO : Only (fun k => k = b0) w w') (hown : w'.ownsRow B 32 4 (.slice A' L.length c') L.length (flat L)) (hblk : w'.heap[g]? = some (.cells #[.int .i64 N, .slice A len c, .int .i64 R] 46 (0, 0))) (hB : B ≤ g) :
    RBuf (w'.setCell ⟨g, 1, none⟩ (.slice A' L.length c')) B g N L R A' c' ∧ Only (RB g A) w (w'.setCell ⟨g, 1, none⟩ (.slice A' L.length c')) := by
  have hO' : Only (RB g A) w w' := ⟨hO.os, hO.tape, hO.output, hO.size, fun k hk _ => hO.block k hk (by omega)⟩
  refine ⟨⟨store5 hblk 1 _, ?_, hB⟩, hO'.setCell (p := ⟨g, 1, none⟩) (Or.inl rfl) _⟩
  refine own_kept hown ((Only.refl (fun k => k = g) _).setCell (p := ⟨g, 1, none⟩) rfl _) (fun k hk e => ?_)
  subst e
  exact own_ne hown hblk (by decide) (by rw [own_map]; exact hk.symm)
theorem three_blocks (w : World) (o1 o2 o3 : Obj) : (((w.alloc o1).alloc o2).alloc o3).heap[w.heap.size]? = some o1 ∧ (((w.alloc o1).alloc o2).alloc o3).heap[w.heap.size + 1]? = some o2 := by
  have h1 := heapNew w o1
  have h2 := heapNew (w.alloc o1) o2
  have e : (w.alloc o1).heap.size = w.heap.size + 1 := by simp
  rw [e] at h2
  exact ⟨block_alloc (block_alloc h1), block_alloc h2⟩
set_option maxRecDepth 100000 in
set_option maxHeartbeats 2000000 in
theorem rtake_some {B g : Nat} {N : Int} {e : Ev} {L : List Ev} {R : Int} {A : Option Addr} {c : Nat} {w : World} (h : RBuf w B g N (e :: L) R A c) (hB : B ≤ w.heap.size) (hL : L.length ≤ 100000) :
    Calls Tryd.prog 24 #[.pointer (some ⟨g, 0, none⟩)] w fun r w' => r = .returned (.tuple #[evV e, .bool true]) ∧ ∃ A' c', RBuf w' B g N L R A' c' ∧ Only (RB g A) w w' := by
  obtain ⟨i0, hi, hz0, hz1, hz2⟩ := info_parts infoEv
  obtain ⟨r, rfl, e0, e1, e2, e3⟩ := h.at (k := 0) rfl
  rw [Nat.zero_mul] at e0 e1 e2 e3
  rw [Nat.zero_add] at e1 e2 e3
  obtain ⟨AD, hcut, hAD⟩ := cut1 r L.length c
  have hbl := lt_block h.block
  have hne : w.heap.size ≠ g := Nat.ne_of_gt hbl
  have hne' : g ≠ w.heap.size := Nat.ne_of_lt hbl
  have hg1 : g ≠ w.heap.size + 1 := by omega
  have hg2 : g ≠ w.heap.size + 1 + 1 := by omega
  have hg3 : g ≠ w.heap.size + 2 := by omega
  have hg4 : w.heap.size + 1 ≠ g := by omega
  have hg5 : w.heap.size + 1 + 1 ≠ g := by omega
  have hg6 : w.heap.size + 2 ≠ g := by omega
  have hg7 : g < w.heap.size + 1 := by omega
  have hg8 : g < w.heap.size + 1 + 1 := by omega
  obtain ⟨c0, c1, c2⟩ := cells3 h.block
  have f1 := free3 h.block 1
  rw [List.length_cons] at c1
  have hrl : r < w.heap.size := World.block_lt_of_cell? w _ e0
  have hr2 : r ≠ w.heap.size := Nat.ne_of_lt hrl
  have hlen0 : ((L.length : Int) + 1 == 0) = false := beq_eq_false_iff_ne.2 (by omega)
  have H := Lib.hid h
  have HAD := Lib.hid hAD
  clear h c0 c2 hAD
  go_enter Tryd.func24, Tryd.ntmps24
  go_wp2_with (at_builtin; refine wpList_append_own_at _ rfl (.tmp 19) (.tmp 24) 42 rfl B 32 i0 (.agg #[.int .i64 0, .int .i64 0, .int .i64 0, .int .i64 0]) 4 32 Tryd.underlying42 hi hz0 hz1 hz2 rfl (by decide) (.slice (some ⟨w.heap.size + 1 + 1, 0, none⟩) 0 0) 0 [] (by rfl) ?own AD L.length (c - 1) (flat L) (by rfl) (flat_len L) ?news (flat_one L) (by unfold maxLen; omega) (by omega) ?base ?_)
  case own =>
    have := World.ownsRow_lit (base := B) (e := 32) (size := 4) ((w.alloc (.cells #[.int .i64 0, .int .i64 0, .int .i64 0, .int .i64 0] 32)).alloc (.cells #[.int .i64 e.deed, .int .i64 e.node, .int .i64 e.key, .int .i64 e.weight] 32)) #[] 0 (by simp; omega) (by simp [maxLen]) rfl
    simpa using this
  case news => exact flat_tail H.out ((((Only.refl _ _).alloc _).alloc _).alloc _) HAD.out
  case base => simp; omega
  intro v' w' hown hgrow _ hat
  obtain ⟨A', c', rfl, hO, ho, hblk⟩ := take_fin H.out ((((Only.refl _ _).alloc _).alloc _).alloc _) (w.heap.size + 1 + 1) (by omega) hgrow hown
  have hA' : ∀ k, A'.map (·.block) = some k → w.heap.size + 2 ≤ k := fun k hk => by
    rw [own_map] at hat
    rcases hat with hat | hat
    · rw [hk] at hat
      have : k = w.heap.size + 1 + 1 := Option.some.inj hat
      omega
    · rw [hk] at hat
      have := Option.some.inj hat
      first | omega | (simp at this; omega)
  obtain ⟨hz4, hb4⟩ := three_blocks w (.cells #[.int .i64 0, .int .i64 0, .int .i64 0, .int .i64 0] 32) (.cells #[.int .i64 e.deed, .int .i64 e.node, .int .i64 e.key, .int .i64 e.weight] 32) (.cells #[] 32)
  have hz5 := (hgrow.block _ (lt_block hz4) (fun h => by have : w.heap.size = w.heap.size + 1 + 1 := Option.some.inj h; omega)).trans hz4
  have hb5 := (hgrow.block _ (lt_block hb4) (fun h => by have : w.heap.size + 1 = w.heap.size + 1 + 1 := Option.some.inj h; omega)).trans hb4
  have q1 := (cells3 hblk).2.1
  have q2 := free3 hblk 1
  have hE := take_end (w.heap.size + 1 + 1) (by omega) hO ho hblk H.out.base
  have hz6 : (w'.setCell ⟨g, 1, none⟩ (.slice A' L.length c')).heap[w.heap.size]? = _ := (RowKit.Below.heap_setCell w' ⟨g, 1, none⟩ _ _ hne).trans hz5
  have hb6 : (w'.setCell ⟨g, 1, none⟩ (.slice A' L.length c')).heap[w.heap.size + 1]? = _ := (RowKit.Below.heap_setCell w' ⟨g, 1, none⟩ _ _ hg4).trans hb5
  have HE := Lib.hid hE
  have HZ := Lib.hid hz6
  have HB6 := Lib.hid hb6
  have HA' := Lib.hid hA'
  clear hE hz6 hb6 hA' hz5 hb5 hz4 hb4 hO ho hown hgrow hat c1 f1 e0 e1 e2 e3 hblk
  go_upto_region 5 with (fail)
  have hfin : ∀ wf, Only (fun k => k = w.heap.size) (w'.setCell ⟨g, 1, none⟩ (.slice A' L.length c')) wf → ∃ A' c', RBuf wf B g N L R A' c' ∧ Only (RB g (some ⟨r, 0, none⟩)) w wf := fun wf hf => by
    have h2 := HE.out.2
    refine ⟨A', c', HE.out.1.kept hf (fun k hk e => ?_), ⟨hf.os.trans h2.os, hf.tape.trans h2.tape, hf.output.trans h2.output, Nat.le_trans h2.size hf.size, fun k hk hn => (hf.block k (Nat.lt_of_lt_of_le hk h2.size) (Nat.ne_of_lt hk)).trans (h2.block k hk hn)⟩⟩
    subst e
    rcases hk with hk | hk
    · exact hne hk
    · have := HA'.out _ hk; omega
  have HFIN := Lib.hid hfin
  clear hfin
  generalize w'.setCell ⟨g, 1, none⟩ (.slice A' L.length c') = w5 at HE HZ HB6 HFIN ⊢
  have z0 : w5.cell? ⟨w.heap.size, 0, none⟩ = some (.int .i64 0) := by have := HZ.out; simp [World.cell?, this]
  have z1 : w5.cell? ⟨w.heap.size, 1, none⟩ = some (.int .i64 0) := by have := HZ.out; simp [World.cell?, this]
  have z2 : w5.cell? ⟨w.heap.size, 2, none⟩ = some (.int .i64 0) := by have := HZ.out; simp [World.cell?, this]
  have z3 : w5.cell? ⟨w.heap.size, 3, none⟩ = some (.int .i64 0) := by have := HZ.out; simp [World.cell?, this]
  have y0 := free3 HZ.out 0
  have y1 := free3 HZ.out 1
  have y2 := free3 HZ.out 2
  have y3 := free3 HZ.out 3
  have x0 : w5.cell? ⟨w.heap.size + 1, 0, none⟩ = some (.int .i64 e.deed) := by have := HB6.out; simp [World.cell?, this]
  have x1 : w5.cell? ⟨w.heap.size + 1, 1, none⟩ = some (.int .i64 e.node) := by have := HB6.out; simp [World.cell?, this]
  have x2 : w5.cell? ⟨w.heap.size + 1, 2, none⟩ = some (.int .i64 e.key) := by have := HB6.out; simp [World.cell?, this]
  have x3 : w5.cell? ⟨w.heap.size + 1, 3, none⟩ = some (.int .i64 e.weight) := by have := HB6.out; simp [World.cell?, this]
  go_wp2
  refine bodyPost_ret (v := .tuple #[evV e, .bool true]) (by simp [results, Tryd.results24, go_sem, evV, z0, z1, z2, z3]) rfl ⟨rfl, HFIN.out _ ?_⟩
  exact ((((Only.refl (fun k => k = w.heap.size) _).setCell (p := ⟨w.heap.size, 0, none⟩) rfl _).setCell (p := ⟨w.heap.size, 1, none⟩) rfl _).setCell (p := ⟨w.heap.size, 2, none⟩) rfl _).setCell (p := ⟨w.heap.size, 3, none⟩) rfl _
end Go.Proofs.YtlnekfodkeifkaaDoor.W

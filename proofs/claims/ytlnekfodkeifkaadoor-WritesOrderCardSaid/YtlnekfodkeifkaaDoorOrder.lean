/- WritesOrder, walked. Condition: errors.errorType holds the type error; the slice reads as the function G. -/
import Derived.Test.YtlnekfodkeifkaaDoorInts
import Derived.Test.YtlnekfodkeifkaaDoorWeigh
namespace Go.Proofs.YtlnekfodkeifkaaDoor.W
open Go.RowKit Go.Maps Go.Proofs.YtlnekfodkeifkaaDoorW.PrintLast Go.Proofs.YtlnekfodkeifkaaDoorW.PrintWords Go.Proofs.YtlnekfodkeifkaaDoor.OC
attribute [local go_sem] World.setCell_drew
set_option linter.unusedSimpArgs false
set_option linter.unusedVariables false

/-- What stands at each round: what has gone in, what has come out, what is held and reserved. -/
structure OrdSt (w wr : World) (b m : Nat) (N : Int) (k r : Nat) (v7 v8 : Value) (I O : List Int) (L : List Ev) : Prop where
  i : Ints wr w.heap.size v7 I
  o : Ints wr w.heap.size v8 O
  oi : Off v7 (BM b m)
  oo : Off v8 (BM b m)
  io : Off v7 (Blk v8)
  buf : Buf wr b m N L O.length r
  eq : I = O ++ L.map Ev.key
  only : Only (fun k => w.heap.size ≤ k) w wr
  sum : (L.length : Int) + r ≤ N
  ik : I.length ≤ k
theorem OrdSt.len {w wr : World} {b m : Nat} {N : Int} {k r : Nat} {v7 v8 : Value} {I O : List Int} {L : List Ev} (h : OrdSt w wr b m N k r v7 v8 I O L) : I.length = O.length + L.length := by
  rw [h.eq]; simp
/-- A step that turns the buffer alone. -/
theorem OrdSt.step {w wr w' : World} {b m : Nat} {N : Int} {k r r' : Nat} {v7 v8 : Value} {I O : List Int} {L : List Ev} (h : OrdSt w wr b m N k r v7 v8 I O L)
    (hb : Buf w' b m N L O.length r') (ho : Only (BM b m) wr w') (hbm : ∀ k, BM b m k → w.heap.size ≤ k) (hs : (L.length : Int) + r' ≤ N) : OrdSt w w' b m N k r' v7 v8 I O L :=
  ⟨h.i.kept ho h.oi, h.o.kept ho h.oo, h.oi, h.oo, h.io, hb, h.eq, h.only.trans (ho.mono hbm), hs, h.ik⟩
theorem OrdSt.quiet {w wr w' : World} {b m : Nat} {N : Int} {k r : Nat} {v7 v8 : Value} {I O : List Int} {L : List Ev} (h : OrdSt w wr b m N k r v7 v8 I O L)
    (ho : Only (fun _ => False) wr w') : OrdSt w w' b m N k r v7 v8 I O L :=
  ⟨h.i.kept ho (fun _ _ h => h), h.o.kept ho (fun _ _ h => h), h.oi, h.oo, h.io, h.buf.kept ho (fun h => h) (fun h => h), h.eq, h.only.trans (ho.mono (fun _ h => h.elim)), h.sum, h.ik⟩

theorem OrdSt.up {w wr : World} {b m : Nat} {N : Int} {k r : Nat} {v7 v8 : Value} {I O : List Int} {L : List Ev} (h : OrdSt w wr b m N k r v7 v8 I O L) : OrdSt w wr b m N (k + 1) r v7 v8 I O L :=
  ⟨h.i, h.o, h.oi, h.oo, h.io, h.buf, h.eq, h.only, h.sum, Nat.le_succ_of_le h.ik⟩
/-- Behind a commit or a take, before the append. -/
structure OrdPre (w wr : World) (b m : Nat) (N F : Int) (r : Nat) (v7 v8 : Value) (I O : List Int) (L : List Ev) : Prop where
  i : Ints wr w.heap.size v7 I
  o : Ints wr w.heap.size v8 O
  oi : Off v7 (BM b m)
  oo : Off v8 (BM b m)
  io : Off v7 (Blk v8)
  buf : Buf wr b m N L F r
  only : Only (fun k => w.heap.size ≤ k) w wr
theorem OrdPre.below {w wr : World} {b m : Nat} {N F : Int} {r : Nat} {v7 v8 : Value} {I O : List Int} {L : List Ev} (h : OrdPre w wr b m N F r v7 v8 I O L) : Below w.heap.size w wr := h.only.below (Nat.le_refl _) (fun _ h => h)
theorem OrdPre.size {w wr : World} {b m : Nat} {N F : Int} {r : Nat} {v7 v8 : Value} {I O : List Int} {L : List Ev} (h : OrdPre w wr b m N F r v7 v8 I O L) : w.heap.size ≤ wr.heap.size := h.only.size
theorem OrdPre.alloc {w wr : World} {b m : Nat} {N F : Int} {r : Nat} {v7 v8 : Value} {I O : List Int} {L : List Ev} (h : OrdPre w wr b m N F r v7 v8 I O L) (o : Obj) : OrdPre w (wr.alloc o) b m N F r v7 v8 I O L :=
  ⟨h.i.alloc o, h.o.alloc o, h.oi, h.oo, h.io, h.buf.kept ((Only.refl (fun _ => False) _).alloc o) (fun h => h) (fun h => h), h.only.alloc o⟩
theorem OrdSt.commit {w wr w' : World} {b m : Nat} {N F : Int} {k r r' : Nat} {v7 v8 : Value} {I O : List Int} {L L' : List Ev} (h : OrdSt w wr b m N k r v7 v8 I O L)
    (hb : Buf w' b m N L' F r') (ho : Only (BM b m) wr w') (hbm : ∀ k, BM b m k → w.heap.size ≤ k) : OrdPre w w' b m N F r' v7 v8 I O L' :=
  ⟨h.i.kept ho h.oi, h.o.kept ho h.oo, h.oi, h.oo, h.io, hb, h.only.trans (ho.mono hbm)⟩
theorem OrdPre.append {w wr w' : World} {b m : Nat} {N : Int} {k r : Nat} {v7 v8 v1 : Value} {I O : List Int} {L : List Ev} {x : Int} (h : OrdPre w wr b m N O.length r v7 v8 I O L)
    (hown : w'.ownsRow w.heap.size 3 1 v1 (I.length + 1) (I.map (Value.int .i64) ++ [.int .i64 x])) (hg : wr.grownBy w' v7.ownBlock) (hat : v1.ownBlock = v7.ownBlock ∨ ∃ b, v1.ownBlock = some b ∧ wr.heap.size ≤ b)
    (he : I ++ [x] = O ++ L.map Ev.key) (hs : (L.length : Int) + r ≤ N) (hk : I.length ≤ k) : OrdSt w w' b m N (k + 1) r v1 v8 (I ++ [x]) O L := by
  have ho := Only.row hg
  have hlt := h.buf.lt
  refine ⟨?_, h.o.kept ho (off_symm h.io), off_grown h.oi (fun k hk => ?_) hat, h.oo, off_grown h.io (fun k hk => (h.o.lt k hk).2) hat, h.buf.kept ho (fun hb => h.oi _ hb (Or.inl rfl)) (fun hb => h.oi _ hb (Or.inr rfl)), he, h.only.trans (ho.mono fun k hk => (h.i.lt k hk).1), hs, by simp; exact hk⟩
  · unfold Ints
    rw [List.length_append, List.map_append]
    exact hown
  · rcases hk with hk | hk <;> omega
theorem OrdPre.appendOut {w wr w' : World} {b m : Nat} {N : Int} {k r : Nat} {v7 v8 v1 : Value} {I O : List Int} {L : List Ev} {x : Int} (h : OrdPre w wr b m N ((O.length : Int) + 1) r v7 v8 I O L)
    (hown : w'.ownsRow w.heap.size 3 1 v1 (O.length + 1) (O.map (Value.int .i64) ++ [.int .i64 x])) (hg : wr.grownBy w' v8.ownBlock) (hat : v1.ownBlock = v8.ownBlock ∨ ∃ b, v1.ownBlock = some b ∧ wr.heap.size ≤ b)
    (he : I = (O ++ [x]) ++ L.map Ev.key) (hs : (L.length : Int) + r ≤ N) (hk : I.length ≤ k) : OrdSt w w' b m N (k + 1) r v7 v1 I (O ++ [x]) L := by
  have ho := Only.row hg
  have hlt := h.buf.lt
  refine ⟨h.i.kept ho h.io, ?_, h.oi, off_grown h.oo (fun k hk => ?_) hat, off_symm (off_grown (off_symm h.io) (fun k hk => (h.i.lt k hk).2) hat), ?_, he, h.only.trans (ho.mono fun k hk => (h.o.lt k hk).1), hs, Nat.le_succ_of_le hk⟩
  · unfold Ints
    rw [List.length_append, List.map_append]
    exact hown
  · rcases hk with hk | hk <;> omega
  · have := h.buf.kept ho (fun hb => h.oo _ hb (Or.inl rfl)) (fun hb => h.oo _ hb (Or.inr rfl))
    rw [List.length_append]
    exact this
theorem size_quiet {b m : Nat} {N : Int} {L : List Ev} {F R : Int} {w : World} (h : Buf w b m N L F R) (n : Nat) :
    Calls Tryd.prog 14 #[.pointer (some ⟨b, 0, none⟩)] (w.drewN n) fun e w' => e = .returned (.int .i64 N) ∧ w' = w.drewN n :=
  (sizeB (h.kept (only_drawn (S := fun _ => False) n) (fun h => h) (fun h => h))).mono fun _ _ ⟨h1, h2⟩ => ⟨h1, h2.symm⟩
set_option maxHeartbeats 4000000 in
set_option maxRecDepth 100000 in
theorem order_any (size : Int) (a : Option Addr) (len cap : Nat) (G : Nat → Int) (w : World) (het : Err.ErrType w) (hrow : Row w a len G) : Calls Tryd.prog 4 #[.int .i64 size, .slice a len cap] w fun e w' => e = .returned (.bool true) ∧ Below w.heap.size w w' := by
  have HET := Lib.hid het
  have HR := Lib.hid hrow
  clear het hrow
  go_enter Tryd.func4, Tryd.ntmps4
  go_wp2_with fail
  refine (small_any _ HET.out).mono ?_
  rintro e w1 ⟨rfl, hbel1⟩
  have E1 := Lib.hid hbel1
  clear hbel1
  go_wp2_with fail
  refine (new_any size _).mono ?_
  rintro e w2 ⟨b, m, rfl, hB2, hb, hm, hbel2⟩
  have hN := ceilV_is size
  generalize ceilV size = N at hB2 hN
  have B2 := Lib.hid hB2
  have E2 := Lib.hid hbel2
  clear hB2 hbel2
  have r2 : Only (fun k => w.heap.size ≤ k) w w2 := ((Only.of_below (S := fun _ => False) E1.out).mono (fun _ h => h.elim)).trans ((Only.of_below (S := fun _ => False) E2.out).mono (fun _ h => h.elim))
  have R2 := Lib.hid r2
  clear r2
  have s1 := E1.out.size
  have HBM : Hid (∀ k, BM b m k → w.heap.size ≤ k) := Lib.hid (fun k h => by rcases h with h | h <;> omega)
  by_cases h1 : (200 : Int) < len
  · go_wp2_with fail
    go_ret
    exact ⟨rfl, R2.out.below (Nat.le_refl _) (fun _ h => h)⟩
  go_wp2_with fail
  go_loopw [7, 8, 9, 10] (fun v7 v8 v9 v10 wr => ∃ (k r : Nat) (I O : List Int) (L : List Ev) (A7 : Option Addr) (c7 : Nat) (A8 : Option Addr) (c8 : Nat), v7 = .slice A7 I.length c7 ∧ v8 = .slice A8 O.length c8 ∧ v9 = .int .i64 r ∧ v10 = .int .i64 k ∧ k ≤ len ∧ OrdSt w wr b m N k r (.slice A7 I.length c7) (.slice A8 O.length c8) I O L) (fun _ _ _ v _ => len - (intOf v).toNat)
  case atStart => exact ⟨0, 0, [], [], [], none, 0, none, 0, rfl, rfl, rfl, rfl, by omega, ⟨Ints.nil _ _, Ints.nil _ _, fun k h => by simp [Value.ownBlock] at h, fun k h => by simp [Value.ownBlock] at h, fun k h => by simp [Value.ownBlock] at h, B2.out, rfl, R2.out, by simp; omega, by simp⟩⟩
  case round =>
    obtain ⟨k, r, I, O, L, A7, c7, A8, c8, rfl, rfl, rfl, rfl, hk, hst⟩ := hrel
    rename World => wa
    have SA := Lib.hid hst
    have hlen : O.length + L.length = I.length := hst.len.symm
    have hq2 : (I.length : Int) - O.length = L.length := by omega
    have hq3 : (O.length : Int) ≤ I.length := by omega
    have hsum := hst.sum
    have hik := hst.ik
    clear hst
    by_cases hlt : k < len
    · obtain ⟨ad, rfl, hx⟩ := HR.out.kept SA.out.only (fun _ h => h) k (by omega)
      by_cases e0 : Go.bits .and .i64 (G k) 3 = 0
      · by_cases hfull : (L.length : Int) + r = N
        · go_wp2_with fail
          refine (reserveB_full SA.out.buf ⟨by omega, by omega, by omega, by omega⟩ (by omega)).mono ?_
          rintro e wb ⟨rfl, -, hbb⟩
          have SB := Lib.hid (SA.out.quiet (Only.of_below hbb))
          clear hbb
          go_wp2_with fail
          have hq : (r : Int) + I.length - O.length = N := by omega
          go_quiet ((go_at_call 14; exact Calls.quiet_of_same (size_quiet SB.out.buf _)))
          have SC := Lib.hid (SB.out.quiet (only_drawn nq))
          generalize wb.drewN nq = wc at SC ⊢
          go_wp2_with (first | (go_at_call 17; refine (reservedB SC.out.buf).mono ?_; rintro e w' ⟨rfl, rfl⟩) | (go_at_call 13; refine (lenB SC.out.buf).mono ?_; rintro e w' ⟨rfl, rfl⟩) | (go_at_call 14; refine (sizeB SC.out.buf).mono ?_; rintro e w' ⟨rfl, rfl⟩))
          all_goals first | exact ⟨⟨k + 1, r, I, O, L, A7, c7, A8, c8, by simp, by simp, by go_num, by go_num, by omega, SC.out.up⟩, by simp [intOf]; omega⟩ | (exfalso; omega)
        · go_wp2_with fail
          refine (reserveB_ok SA.out.buf ⟨by omega, by omega, by omega, by omega⟩ hfull).mono ?_
          rintro e wb ⟨rfl, hBb, hOb⟩
          have SB := Lib.hid (SA.out.step (r' := r + 1) hBb hOb HBM.out (by omega))
          clear hBb hOb
          go_wp2_with fail
          have hq : (r : Int) + I.length - O.length < N := by omega
          go_quiet ((go_at_call 14; exact Calls.quiet_of_same (size_quiet SB.out.buf _)))
          have SC := Lib.hid (SB.out.quiet (only_drawn nq))
          generalize wb.drewN nq = wc at SC ⊢
          go_wp2_with (first | (go_at_call 17; refine (reservedB SC.out.buf).mono ?_; rintro e w' ⟨rfl, rfl⟩) | (go_at_call 13; refine (lenB SC.out.buf).mono ?_; rintro e w' ⟨rfl, rfl⟩) | (go_at_call 14; refine (sizeB SC.out.buf).mono ?_; rintro e w' ⟨rfl, rfl⟩))
          all_goals first | exact ⟨⟨k + 1, r + 1, I, O, L, A7, c7, A8, c8, by simp, by simp, by go_num, by go_num, by omega, SC.out.up⟩, by simp [intOf]; omega⟩ | (exfalso; omega)
      by_cases e1 : Go.bits .and .i64 (G k) 3 = 1
      · by_cases hr : r = 0
        · subst hr
          go_wp2_with fail
          refine (event_any _ _).mono ?_
          rintro e wb ⟨rfl, hbb⟩
          have SB := Lib.hid (SA.out.quiet (Only.of_below hbb))
          clear hbb
          go_wp2_with fail
          refine (commitB_none (show Buf wb b m N L O.length 0 from SB.out.buf) _).mono ?_
          rintro e wc ⟨rfl, hbb⟩
          have SC := Lib.hid (SB.out.quiet (Only.of_below hbb))
          clear hbb
          go_wp2_with (first | (go_at_call 17; refine (reservedB SC.out.buf).mono ?_; rintro e w' ⟨rfl, rfl⟩) | (go_at_call 13; refine (lenB SC.out.buf).mono ?_; rintro e w' ⟨rfl, rfl⟩) | (go_at_call 14; refine (sizeB SC.out.buf).mono ?_; rintro e w' ⟨rfl, rfl⟩))
          all_goals first | exact ⟨⟨k + 1, 0, I, O, L, A7, c7, A8, c8, by simp, by simp, by go_num, by go_num, by omega, SC.out.up⟩, by simp [intOf]; omega⟩ | (exfalso; omega)
        · have hr0 : (0 : Int) < r := by omega
          have hr1 : 0 < r := by omega
          go_wp2_with fail
          refine (event_any _ _).mono ?_
          rintro e wb ⟨rfl, hbb⟩
          have SB := Lib.hid (SA.out.quiet (Only.of_below hbb))
          clear hbb
          go_wp2_with fail
          refine (commitB_ok SB.out.buf ⟨by omega, by omega, by omega, by omega⟩ hr0 ⟨1, k, k, Go.bits .and .i64 k 15⟩).mono ?_
          rintro e wc ⟨rfl, hBc, hOc⟩
          have hrr : (r : Int) - 1 = ((r - 1 : Nat) : Int) := by omega
          rw [hrr] at hBc
          have SC := Lib.hid (SB.out.commit hBc hOc HBM.out)
          clear hBc hOc
          go_wp2_with (first | ((with_reducible refine gate_builtin (b := .append) (xs := #[.tmp 77, .tmp 79]) rfl ?_); at_builtin; refine print_append_cells (w0 := w) w.heap.size rfl (.tmp 77) (.tmp 79) 22 3 (.int .i64 0) 1 8 rfl Tryd.underlying22 infoInt rfl (by decide) (by decide) (.slice A7 I.length c7) I.length (I.map (Value.int .i64)) [.int .i64 k] rfl rfl rfl (by simp [Value.oneCell']) SC.out.i SC.out.below SC.out.size (by omega) ?_; intro v1 wd hown hbd hgd hat; have SD := Lib.hid (SC.out.append hown hgd hat (by rw [SA.out.eq]; simp) (by simp; omega) hik); clear hown hbd hgd hat))
          obtain ⟨I', hI'⟩ : ∃ I', I ++ [(k : Int)] = I' := ⟨_, rfl⟩
          obtain ⟨L', hL'⟩ : ∃ L', L ++ [(⟨1, k, k, Go.bits .and .i64 k 15⟩ : Ev)] = L' := ⟨_, rfl⟩
          rw [hI', hL'] at SD
          have hlen' : O.length + L'.length = I'.length := SD.out.len.symm
          have hsum' := SD.out.sum
          have hik' := SD.out.ik
          obtain ⟨A7', c7', rfl, hc7⟩ := SD.out.i.shape
          clear hq2 hq3 hlen hsum hI' hL'
          have hq2 : (I'.length : Int) - O.length = L'.length := by omega
          have hq3 : (O.length : Int) ≤ I'.length := by omega
          go_wp2_with (first | (go_at_call 17; refine (reservedB SD.out.buf).mono ?_; rintro e w' ⟨rfl, rfl⟩) | (go_at_call 13; refine (lenB SD.out.buf).mono ?_; rintro e w' ⟨rfl, rfl⟩) | (go_at_call 14; refine (sizeB SD.out.buf).mono ?_; rintro e w' ⟨rfl, rfl⟩))
          all_goals first | exact ⟨⟨k + 1, r - 1, I', O, L', A7', c7', A8, c8, by simp, by simp, by go_num, by go_num, by omega, SD.out⟩, by simp [intOf]; omega⟩ | (exfalso; omega)
      by_cases e2 : Go.bits .and .i64 (G k) 3 = 2
      · by_cases hr : r = 0
        · subst hr
          go_wp2_with fail
          refine (cancelB_none (show Buf wa b m N L O.length 0 from SA.out.buf)).mono ?_
          rintro e w' ⟨rfl, rfl⟩
          go_wp2_with (first | (go_at_call 17; refine (reservedB SA.out.buf).mono ?_; rintro e w' ⟨rfl, rfl⟩) | (go_at_call 13; refine (lenB SA.out.buf).mono ?_; rintro e w' ⟨rfl, rfl⟩) | (go_at_call 14; refine (sizeB SA.out.buf).mono ?_; rintro e w' ⟨rfl, rfl⟩))
          all_goals first | exact ⟨⟨k + 1, 0, I, O, L, A7, c7, A8, c8, by simp, by simp, by go_num, by go_num, by omega, SA.out.up⟩, by simp [intOf]; omega⟩ | (exfalso; omega)
        · go_wp2_with fail
          refine (cancelB_ok SA.out.buf ⟨by omega, by omega, by omega, by omega⟩ (by omega)).mono ?_
          rintro e wb ⟨rfl, hBb, hOb⟩
          have hrr : (r : Int) - 1 = ((r - 1 : Nat) : Int) := by omega
          rw [hrr] at hBb
          have SB := Lib.hid (SA.out.step (r' := r - 1) hBb hOb HBM.out (by omega))
          clear hBb hOb
          go_wp2_with (first | (go_at_call 17; refine (reservedB SB.out.buf).mono ?_; rintro e w' ⟨rfl, rfl⟩) | (go_at_call 13; refine (lenB SB.out.buf).mono ?_; rintro e w' ⟨rfl, rfl⟩) | (go_at_call 14; refine (sizeB SB.out.buf).mono ?_; rintro e w' ⟨rfl, rfl⟩))
          all_goals first | exact ⟨⟨k + 1, r - 1, I, O, L, A7, c7, A8, c8, by simp, by simp, by go_num, by go_num, by omega, SB.out.up⟩, by simp [intOf]; omega⟩ | (exfalso; omega)
      by_cases e3 : Go.bits .and .i64 (G k) 3 = 3
      · cases L with
        | nil =>
          go_wp2_with fail
          refine (takeB_none SA.out.buf ⟨by omega, by omega, by simp at hsum ⊢; omega, by omega⟩).mono ?_
          rintro e wb ⟨rfl, hbb⟩
          have SB := Lib.hid (SA.out.quiet (Only.of_below hbb))
          clear hbb
          dsimp only [evV, evZero]
          go_wp2_with fail
          have SC := Lib.hid (SB.out.quiet ((Only.refl (fun _ => False) _).alloc (.cells #[.int .i64 0, .int .i64 0, .int .i64 0, .int .i64 0] 32)))
          generalize wb.alloc (.cells #[.int .i64 0, .int .i64 0, .int .i64 0, .int .i64 0] 32) = wc at SC ⊢
          go_wp2_with (first | (go_at_call 17; refine (reservedB SC.out.buf).mono ?_; rintro e w' ⟨rfl, rfl⟩) | (go_at_call 13; refine (lenB SC.out.buf).mono ?_; rintro e w' ⟨rfl, rfl⟩) | (go_at_call 14; refine (sizeB SC.out.buf).mono ?_; rintro e w' ⟨rfl, rfl⟩))
          all_goals first | exact ⟨⟨k + 1, r, I, O, [], A7, c7, A8, c8, by simp, by simp, by go_num, by go_num, by omega, SC.out.up⟩, by simp [intOf]; omega⟩ | (exfalso; omega)
        | cons E L' =>
          have hO200 : O.length ≤ 200 := by omega
          go_wp2_with fail
          refine (takeB_some SA.out.buf ⟨by omega, by omega, by simp at hsum ⊢; omega, by omega⟩).mono ?_
          rintro e wb ⟨rfl, hBb, hOb⟩
          have SB := Lib.hid (SA.out.commit (show Buf wb b m N L' ((O.length : Int) + 1) r from hBb) hOb HBM.out)
          clear hBb hOb
          have SC := Lib.hid (SB.out.alloc (.cells #[.int .i64 E.deed, .int .i64 E.node, .int .i64 E.key, .int .i64 E.weight] 32))
          have ck : (wb.alloc (.cells #[.int .i64 E.deed, .int .i64 E.node, .int .i64 E.key, .int .i64 E.weight] 32)).cell? ⟨wb.heap.size, 2, none⟩ = some (.int .i64 E.key) := cell_new rfl
          dsimp only [evV]
          go_wp2_with (first | ((with_reducible refine gate_builtin (b := .append) (xs := #[.tmp 96, .tmp 99]) rfl ?_); at_builtin; refine print_append_cells (w0 := w) w.heap.size rfl (.tmp 96) (.tmp 99) 22 3 (.int .i64 0) 1 8 rfl Tryd.underlying22 infoInt rfl (by decide) (by decide) (.slice A8 O.length c8) O.length (O.map (Value.int .i64)) [.int .i64 E.key] rfl ?hxx rfl (by simp [Value.oneCell']) SC.out.o SC.out.below SC.out.size (by omega) ?_; (case hxx => first | rfl | (go_simp; done) | simp); intro v1 wd hown hbd hgd hat; have SD := Lib.hid (SC.out.appendOut hown hgd hat (by rw [SA.out.eq]; simp) (by have := hsum; rw [List.length_cons] at this; omega) hik); clear hown hbd hgd hat))
          obtain ⟨O', hO'⟩ : ∃ O', O ++ [E.key] = O' := ⟨_, rfl⟩
          rw [hO'] at SD
          have hlen' : O'.length + L'.length = I.length := SD.out.len.symm
          have hsum' := SD.out.sum
          obtain ⟨A8', c8', rfl, hc8⟩ := SD.out.o.shape
          clear hq2 hq3 hlen hsum hO' hO200
          have hq2 : (I.length : Int) - O'.length = L'.length := by omega
          have hq3 : (O'.length : Int) ≤ I.length := by omega
          go_wp2_with (first | (go_at_call 17; refine (reservedB SD.out.buf).mono ?_; rintro e w' ⟨rfl, rfl⟩) | (go_at_call 13; refine (lenB SD.out.buf).mono ?_; rintro e w' ⟨rfl, rfl⟩) | (go_at_call 14; refine (sizeB SD.out.buf).mono ?_; rintro e w' ⟨rfl, rfl⟩))
          all_goals first | exact ⟨⟨k + 1, r, I, O', L', A7, c7, A8', c8', by simp, by simp, by go_num, by go_num, by omega, SD.out⟩, by simp [intOf]; omega⟩ | (exfalso; omega)
      · go_wp2_with fail
        go_wp2_with (first | (go_at_call 17; refine (reservedB SA.out.buf).mono ?_; rintro e w' ⟨rfl, rfl⟩) | (go_at_call 13; refine (lenB SA.out.buf).mono ?_; rintro e w' ⟨rfl, rfl⟩) | (go_at_call 14; refine (sizeB SA.out.buf).mono ?_; rintro e w' ⟨rfl, rfl⟩))
        all_goals first | exact ⟨⟨k + 1, r, I, O, L, A7, c7, A8, c8, by simp, by simp, by go_num, by go_num, by omega, SA.out.up⟩, by simp [intOf]; omega⟩ | (exfalso; omega)
    · have hc7 : I.length ≤ c7 := by
        obtain ⟨A, c, e, h⟩ := SA.out.i.shape
        injection e with _ _ e3
        omega
      have hc8 : O.length ≤ c8 := by
        obtain ⟨A, c, e, h⟩ := SA.out.o.shape
        injection e with _ _ e3
        omega
      have hz1 : O.length ≤ c7 := by omega
      have hz2 : (O.length : Int) ≤ c7 := by omega
      go_wp2_with fail
      refine (pantryref03_Ints.calls (O.length + 1) A8 c8 O A7 c7 O true _ (SA.out.o.reads (J := []) (by simp)) hc8 (SA.out.i.reads SA.out.eq) hz1 (ints_eq O (by omega))).mono ?_
      rintro e w' ⟨rfl, hd⟩
      have hbel := hd.below
      clear hd
      go_wp2_with fail
      go_ret
      exact ⟨rfl, (SA.out.only.trans ((Only.of_below (S := fun _ => False) hbel).mono (fun _ h => h.elim))).below (Nat.le_refl _) (fun _ h => h)⟩
end Go.Proofs.YtlnekfodkeifkaaDoor.W

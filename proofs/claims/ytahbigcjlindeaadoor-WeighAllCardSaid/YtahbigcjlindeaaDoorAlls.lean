/- WeighAll, walked. Conditions: errors.errorType holds the type error; the table's cells are known; the slices read as functions of int64s. -/
import Derived.Test.YtahbigcjlindeaaDoorAdmits
import Derived.StillTailTactics
namespace Go.Proofs.YtahbigcjlindeaaDoor.W
open Go.RowKit Go.Proofs.YtahbigcjlindeaaDoorW.PrintLast Go.Proofs.YtahbigcjlindeaaDoorW.PrintWords Go.Proofs.YtahbigcjlindeaaDoor.T
attribute [local go_sem] World.setCell_drew
set_option linter.unusedSimpArgs false
set_option linter.unusedVariables false

/-- A row of errors reads as a function. -/
def ERow (w : World) (A : Option Addr) (n : Nat) (V : Nat → Value) : Prop := ∀ i, i < n → ∃ ad, A = some ad ∧ w.cell? (ad.add i) = some (V i)
theorem ERow.kept {w w' : World} {a : Option Addr} {n : Nat} {V : Nat → Value} (h : ERow w a n V) (hb : Below w.heap.size w w') : ERow w' a n V := fun i hi => by
  obtain ⟨ad, e, hc⟩ := h i hi
  exact ⟨ad, e, cell_kept hc hb⟩
theorem AllSt.row {w wr : World} {A : Option Addr} {c k : Nat} {Es : List Value} {F K M : Nat → Int} (h : AllSt w wr A c k Es F K M) : ERow wr A k (fun i => Es.getD i .nilIface) ∧ ∀ i, i < k → ErrIs wr (Es.getD i .nilIface) (F i) (K i) (M i) := by
  refine ⟨fun i hi => ?_, fun i hi => ?_⟩
  · obtain ⟨v, hv, _⟩ := h.errs.2 i hi
    rcases h.own.2 with ⟨_, h0⟩ | ⟨g, cap, cur, e, _⟩
    · omega
    · injection e with e1 _ _
      subst e1
      refine ⟨_, rfl, ?_⟩
      have hd : Es.getD i .nilIface = v := by rw [List.getD_eq_getElem?_getD, hv]; rfl
      show wr.cell? _ = some (Es.getD i .nilIface)
      rw [hd]
      exact h.own.cells (g := g) rfl i v hv
  · obtain ⟨v, hv, he⟩ := h.errs.2 i hi
    have hd : Es.getD i .nilIface = v := by rw [List.getD_eq_getElem?_getD, hv]; rfl
    rw [hd]; exact he
theorem first_none (A : Option Addr) (n c : Nat) (V : Nat → Value) (w : World) (hn : n ≤ 1000) (hr : ERow w A n V) (hv : ∀ i, i < n → V i = .nilIface) :
    Calls Tryd.prog 18 #[.slice A n c] w fun e w' => e = .returned .nilIface ∧ w = w' := by
  have HR := Lib.hid hr
  have HV := Lib.hid hv
  clear hr hv
  go_enter Tryd.func18, Tryd.ntmps18
  go_wp2
  go_loop [7] (fun i => ∃ k : Nat, k ≤ n ∧ i = .int .i64 k) (fun i => n - (intOf i).toNat)
  case atStart => exact ⟨0, Nat.zero_le _, rfl⟩
  case round =>
    obtain ⟨k, hk, rfl⟩ := hrel
    by_cases hlt : k < n
    · obtain ⟨ad, rfl, hx⟩ := HR.out k hlt
      rw [HV.out k hlt] at hx
      go_wp2
      go_round
      case rel => exact ⟨k + 1, by omega, by go_num⟩
      case measure => simp [intOf]; omega
    · obtain rfl : k = n := by omega
      go_wp2
      go_ret
      exact ⟨rfl, rfl⟩
theorem first_some (A : Option Addr) (n c j : Nat) (V : Nat → Value) (p : Option Addr) (w : World) (hn : n ≤ 1000) (hr : ERow w A n V) (hj : j < n) (hv : ∀ i, i < j → V i = .nilIface) (hvj : V j = .iface 48 (.pointer p)) :
    Calls Tryd.prog 18 #[.slice A n c] w fun e w' => e = .returned (.iface 48 (.pointer p)) ∧ w = w' := by
  have HR := Lib.hid hr
  have HV := Lib.hid hv
  have HJ := Lib.hid hvj
  clear hr hv hvj
  go_enter Tryd.func18, Tryd.ntmps18
  go_wp2
  go_loop [7] (fun i => ∃ k : Nat, k ≤ j ∧ i = .int .i64 k) (fun i => n - (intOf i).toNat)
  case atStart => exact ⟨0, Nat.zero_le _, rfl⟩
  case round =>
    obtain ⟨k, hk, rfl⟩ := hrel
    have hlt : k < n := by omega
    obtain ⟨ad, rfl, hx⟩ := HR.out k hlt
    by_cases hkj : k < j
    · rw [HV.out k hkj] at hx
      go_wp2
      go_round
      case rel => exact ⟨k + 1, by omega, by go_num⟩
      case measure => simp [intOf]; omega
    · obtain rfl : k = j := by omega
      rw [HJ.out] at hx
      go_wp2
      go_ret
      exact ⟨rfl, rfl⟩
/-- The first of k that is not admitted: its number, its key, its weight; else nothing. -/
def FirstAt (F K M : Nat → Int) (k : Nat) (f a m : Int) : Prop := (f = 0 ∧ a = 0 ∧ m = 0 ∧ ∀ i, i < k → F i = 0) ∨ ∃ j, j < k ∧ (∀ i, i < j → F i = 0) ∧ F j ≠ 0 ∧ f = F j ∧ a = K j ∧ m = M j
theorem FirstAt.skip {F K M : Nat → Int} {k : Nat} {f a m : Int} (h : FirstAt F K M k f a m) (hf : f ≠ 0 ∨ F k = 0) : FirstAt F K M (k + 1) f a m := by
  rcases h with ⟨h1, h2, h3, h4⟩ | ⟨j, h1, h2, h3, h4⟩
  · refine .inl ⟨h1, h2, h3, fun i hi => ?_⟩
    by_cases e : i = k
    · subst e
      rcases hf with hf | hf
      · exact absurd h1 hf
      · exact hf
    · exact h4 i (by omega)
  · exact .inr ⟨j, by omega, h2, h3, h4⟩
theorem FirstAt.take {F K M : Nat → Int} {k : Nat} {a m : Int} (h : FirstAt F K M k 0 a m) (hf : F k ≠ 0) : FirstAt F K M (k + 1) (F k) (K k) (M k) := by
  rcases h with ⟨h1, h2, h3, h4⟩ | ⟨j, h1, h2, h3, h4, _⟩
  · exact .inr ⟨k, by omega, h4, hf, rfl, rfl, rfl⟩
  · exact absurd h4.symm h3
/-- What stands at each round. -/
structure RdSt (w2 wr : World) (F K M : Nat → Int) (k : Nat) (f a m : Int) : Prop where
  below : Below w2.heap.size w2 wr
  first : FirstAt F K M k f a m
set_option maxHeartbeats 8000000 in
set_option maxRecDepth 100000 in
theorem alls_any (T : Nat → Int) (a : Option Addr) (n ca : Nat) (K : Nat → Int) (hK : ∀ i, I64 (K i)) (b : Option Addr) (n2 cb : Nat) (G : Nat → Int) (hG : ∀ i, I64 (G i)) (cap : Int) (w : World) (het : Err.ErrType w) (ht : TabT T w) (hra : Row w a n K) (hrb : Row w b n2 G) :
    Calls Tryd.prog 7 #[.slice a n ca, .slice b n2 cb, .int .i64 cap] w fun e w' => e = .returned (.bool true) ∧ Below w.heap.size w w' := by
  have HET := Lib.hid het
  have HT := Lib.hid ht
  have RA := Lib.hid hra
  have RB := Lib.hid hrb
  have HK := Lib.hid hK
  have HM : Hid (∀ i, I64 (wOf n2 G i)) := Lib.hid fun i => by unfold wOf; split; exact hG i; exact ⟨by decide, by decide⟩
  clear het ht hra hrb hK hG
  go_enter Tryd.func7, Tryd.ntmps7
  go_wp2_with fail
  refine (small_any _ HET.out).mono ?_
  rintro e w1 ⟨rfl, hb1⟩
  have B1 := Lib.hid hb1
  clear hb1
  by_cases h1 : (200 : Int) < n
  · go_wp2_with fail
    go_ret
    exact ⟨rfl, B1.out⟩
  by_cases h2 : (400 : Int) < n2
  · go_wp2_with fail
    go_ret
    exact ⟨rfl, B1.out⟩
  go_wp2_with fail
  refine (all_any a n ca K b n2 cb G cap _ (by omega) (by omega) (RA.out.kept B1.out) (RB.out.kept B1.out)).mono ?_
  rintro e w2 ⟨A, c, Es, rfl, hS⟩
  obtain ⟨her, hes⟩ := hS.row
  have ER := Lib.hid her
  have EI := Lib.hid hes
  have B2 := Lib.hid (B1.out.trans (hS.below.mono B1.out.size))
  clear hS her hes
  obtain ⟨V, hV⟩ : ∃ V : Nat → Value, (fun i => Es.getD i .nilIface) = V := ⟨_, rfl⟩
  have hV' : ∀ i, Es.getD i .nilIface = V i := fun i => congrFun hV i
  rw [hV] at ER
  simp only [hV'] at EI
  obtain ⟨F, hF⟩ : ∃ F : Nat → Int, (fun i => adm (wOf n2 G i) cap) = F := ⟨_, rfl⟩
  have hF' : ∀ i, adm (wOf n2 G i) cap = F i := fun i => congrFun hF i
  simp only [hF'] at EI
  have HF := Lib.hid hF'
  obtain ⟨M, hMM⟩ : ∃ M : Nat → Int, wOf n2 G = M := ⟨_, rfl⟩
  rw [hMM] at EI HM HF
  have HMM := Lib.hid hMM
  clear hV hV' hF hF' hMM
  go_wp2_with fail
  go_loopw [9, 10, 11, 12] (fun f av mv i wr => ∃ (k : Nat) (fv xv yv : Int), k ≤ n ∧ i = .int .i64 k ∧ f = .int .i64 fv ∧ av = .int .i64 xv ∧ mv = .int .i64 yv ∧ RdSt w2 wr F K M k fv xv yv) (fun _ _ _ i _ => n - (intOf i).toNat)
  case atStart => exact ⟨0, 0, 0, 0, Nat.zero_le _, rfl, rfl, rfl, rfl, ⟨Below.refl _ _, .inl ⟨rfl, rfl, rfl, fun i hi => by omega⟩⟩⟩
  case round =>
    obtain ⟨k, fv, xv, yv, hk, rfl, rfl, rfl, rfl, hst⟩ := hrel
    rename World => wr
    have ST := Lib.hid hst
    clear hst
    have BR : Hid (Below w.heap.size w wr) := Lib.hid (B2.out.trans (ST.out.below.mono B2.out.size))
    by_cases hlt : k < n
    · by_cases hw : k < n2
      · obtain ⟨ad, rfl, hx⟩ := RA.out.kept BR.out k hlt
        obtain ⟨ed, rfl, he⟩ := ER.out.kept ST.out.below k hlt
        have hei := (EI.out k hlt).kept ST.out.below
        have hvv : ∃ v, V k = v := ⟨_, rfl⟩
        obtain ⟨v, hvk⟩ := hvv
        rw [hvk] at he hei
        obtain ⟨fk, hfk⟩ : ∃ fk, F k = fk := ⟨_, rfl⟩
        have hra := radmit_at (x := M k) (c := cap) (n := fk) (by rw [HF.out, hfk]) wr
        rw [hfk] at hei
        obtain ⟨bd, rfl, hy⟩ := RB.out.kept BR.out k hw
        have hmk : M k = G k := by rw [← HMM.out]; unfold wOf; rw [if_pos hw]
        rw [hmk] at hei hra
        have HMK := Lib.hid hmk
        have hfi : I64 fk := by
          rcases adm_is (M k) cap with h | h | h <;> rw [HF.out, hfk] at h <;> rw [h] <;> exact ⟨by decide, by decide⟩
        have hmi : I64 (G k) := by rw [← HMK.out]; exact HM.out k
        have hfa := fun (W : World) (hW : Below wr.heap.size wr W) => fault_ok T v fk (K k) (G k) hfi (HK.out k) hmi W (errType_kept HET.out (BR.out.trans (hW.mono BR.out.size))) (HT.out.kept (BR.out.trans (hW.mono BR.out.size))) (hei.kept hW)
        have FA := Lib.hid hfa
        have HFK := Lib.hid hfk
        clear hfa hei hvk hmk hfk hfi hmi
        by_cases h0 : fv = 0
        · subst h0
          by_cases h3 : fk = 0
          · subst h3
            have SK : Hid ((0 : Int) ≠ 0 ∨ F k = 0) := Lib.hid (.inr HFK.out)
            go_wp2_with (go_at_call 12; refine hra.mono ?_; rintro e w' ⟨rfl, rfl⟩)
            go_still_tail 10, (by kernel_rfl)
            change wpList _ _ _ _ _ wr.drew
            have hdr : Below wr.heap.size wr wr.drew := (Below.refl _ _).drew
            generalize wr.drew = w3 at hdr ⊢
            have DR := Lib.hid hdr
            have HXX := Lib.hid hx
            clear hdr hx he hy
            go_wp2_with (go_at_call 14; refine (FA.out _ DR.out).mono ?_; rintro e w4 ⟨rfl, hb4⟩; have B4 := Lib.hid (ST.out.below.trans ((DR.out.trans (hb4.mono DR.out.size)).mono ST.out.below.size)); clear hb4)
            repeat (go_quiet (fail); try go_wp2)
            go_roundw
            case rel =>
              have hB4 := B4.out
              exact ⟨k + 1, _, _, _, by omega, by go_num, rfl, rfl, rfl, ⟨by first | exact hB4 | exact T.below_drewN hB4 _, ST.out.first.skip (SK.out)⟩⟩
            case measure => simp [intOf]; omega
          · have b3 : (fk == 0) = false := beq_eq_false_iff_ne.2 h3
            have b4 : (fk != 0) = true := bne_iff_ne.2 h3
            have HN := Lib.hid h3
            clear h3
            go_wp2_with (go_at_call 12; refine hra.mono ?_; rintro e w' ⟨rfl, rfl⟩)
            go_still_tail 10, (by kernel_rfl)
            change wpList _ _ _ _ _ wr.drew
            have hdr : Below wr.heap.size wr wr.drew := (Below.refl _ _).drew
            generalize wr.drew = w3 at hdr ⊢
            have DR := Lib.hid hdr
            have HXX := Lib.hid hx
            clear hdr hx he hy
            go_wp2_with (go_at_call 14; refine (FA.out _ DR.out).mono ?_; rintro e w4 ⟨rfl, hb4⟩; have B4 := Lib.hid (ST.out.below.trans ((DR.out.trans (hb4.mono DR.out.size)).mono ST.out.below.size)); have hx4 := cell_kept HXX.out (DR.out.trans (hb4.mono DR.out.size)); clear hb4)
            repeat (go_quiet (fail); try go_wp2)
            go_roundw
            case rel =>
              have hB4 := B4.out
              have hft := ST.out.first.take (by rw [HFK.out]; exact HN.out)
              rw [HFK.out, HMK.out] at hft
              exact ⟨k + 1, _, _, _, by omega, by go_num, rfl, rfl, rfl, ⟨by first | exact hB4 | exact T.below_drewN hB4 _, hft⟩⟩
            case measure => simp [intOf]; omega
        · have b1 : (fv == 0) = false := beq_eq_false_iff_ne.2 h0
          have SK : Hid (fv ≠ 0 ∨ F k = 0) := Lib.hid (.inl h0)
          clear h0
          go_wp2_with (go_at_call 12; refine hra.mono ?_; rintro e w' ⟨rfl, rfl⟩)
          go_still_tail 10, (by kernel_rfl)
          change wpList _ _ _ _ _ wr.drew
          have hdr : Below wr.heap.size wr wr.drew := (Below.refl _ _).drew
          generalize wr.drew = w3 at hdr ⊢
          have DR := Lib.hid hdr
          have HXX := Lib.hid hx
          clear hdr hx he hy
          go_wp2_with (go_at_call 14; refine (FA.out _ DR.out).mono ?_; rintro e w4 ⟨rfl, hb4⟩; have B4 := Lib.hid (ST.out.below.trans ((DR.out.trans (hb4.mono DR.out.size)).mono ST.out.below.size)); clear hb4)
          repeat (go_quiet (fail); try go_wp2)
          go_roundw
          case rel =>
            have hB4 := B4.out
            exact ⟨k + 1, _, _, _, by omega, by go_num, rfl, rfl, rfl, ⟨by first | exact hB4 | exact T.below_drewN hB4 _, ST.out.first.skip (SK.out)⟩⟩
          case measure => simp [intOf]; omega
      · obtain ⟨ad, rfl, hx⟩ := RA.out.kept BR.out k hlt
        obtain ⟨ed, rfl, he⟩ := ER.out.kept ST.out.below k hlt
        have hei := (EI.out k hlt).kept ST.out.below
        have hvv : ∃ v, V k = v := ⟨_, rfl⟩
        obtain ⟨v, hvk⟩ := hvv
        rw [hvk] at he hei
        obtain ⟨fk, hfk⟩ : ∃ fk, F k = fk := ⟨_, rfl⟩
        have hra := radmit_at (x := M k) (c := cap) (n := fk) (by rw [HF.out, hfk]) wr
        rw [hfk] at hei
        have hmk : M k = 0 := by rw [← HMM.out]; unfold wOf; rw [if_neg hw]
        rw [hmk] at hei hra
        have HMK := Lib.hid hmk
        have hfi : I64 fk := by
          rcases adm_is (M k) cap with h | h | h <;> rw [HF.out, hfk] at h <;> rw [h] <;> exact ⟨by decide, by decide⟩
        have hmi : I64 0 := by rw [← HMK.out]; exact HM.out k
        have hfa := fun (W : World) (hW : Below wr.heap.size wr W) => fault_ok T v fk (K k) 0 hfi (HK.out k) hmi W (errType_kept HET.out (BR.out.trans (hW.mono BR.out.size))) (HT.out.kept (BR.out.trans (hW.mono BR.out.size))) (hei.kept hW)
        have FA := Lib.hid hfa
        have HFK := Lib.hid hfk
        clear hfa hei hvk hmk hfk hfi hmi
        by_cases h0 : fv = 0
        · subst h0
          by_cases h3 : fk = 0
          · subst h3
            have SK : Hid ((0 : Int) ≠ 0 ∨ F k = 0) := Lib.hid (.inr HFK.out)
            go_wp2_with (go_at_call 12; refine hra.mono ?_; rintro e w' ⟨rfl, rfl⟩)
            go_still_tail 10, (by kernel_rfl)
            change wpList _ _ _ _ _ wr.drew
            have hdr : Below wr.heap.size wr wr.drew := (Below.refl _ _).drew
            generalize wr.drew = w3 at hdr ⊢
            have DR := Lib.hid hdr
            have HXX := Lib.hid hx
            clear hdr hx he
            go_wp2_with (go_at_call 14; refine (FA.out _ DR.out).mono ?_; rintro e w4 ⟨rfl, hb4⟩; have B4 := Lib.hid (ST.out.below.trans ((DR.out.trans (hb4.mono DR.out.size)).mono ST.out.below.size)); clear hb4)
            repeat (go_quiet (fail); try go_wp2)
            go_roundw
            case rel =>
              have hB4 := B4.out
              exact ⟨k + 1, _, _, _, by omega, by go_num, rfl, rfl, rfl, ⟨by first | exact hB4 | exact T.below_drewN hB4 _, ST.out.first.skip (SK.out)⟩⟩
            case measure => simp [intOf]; omega
          · have b3 : (fk == 0) = false := beq_eq_false_iff_ne.2 h3
            have b4 : (fk != 0) = true := bne_iff_ne.2 h3
            have HN := Lib.hid h3
            clear h3
            go_wp2_with (go_at_call 12; refine hra.mono ?_; rintro e w' ⟨rfl, rfl⟩)
            go_still_tail 10, (by kernel_rfl)
            change wpList _ _ _ _ _ wr.drew
            have hdr : Below wr.heap.size wr wr.drew := (Below.refl _ _).drew
            generalize wr.drew = w3 at hdr ⊢
            have DR := Lib.hid hdr
            have HXX := Lib.hid hx
            clear hdr hx he
            go_wp2_with (go_at_call 14; refine (FA.out _ DR.out).mono ?_; rintro e w4 ⟨rfl, hb4⟩; have B4 := Lib.hid (ST.out.below.trans ((DR.out.trans (hb4.mono DR.out.size)).mono ST.out.below.size)); have hx4 := cell_kept HXX.out (DR.out.trans (hb4.mono DR.out.size)); clear hb4)
            repeat (go_quiet (fail); try go_wp2)
            go_roundw
            case rel =>
              have hB4 := B4.out
              have hft := ST.out.first.take (by rw [HFK.out]; exact HN.out)
              rw [HFK.out, HMK.out] at hft
              exact ⟨k + 1, _, _, _, by omega, by go_num, rfl, rfl, rfl, ⟨by first | exact hB4 | exact T.below_drewN hB4 _, hft⟩⟩
            case measure => simp [intOf]; omega
        · have b1 : (fv == 0) = false := beq_eq_false_iff_ne.2 h0
          have SK : Hid (fv ≠ 0 ∨ F k = 0) := Lib.hid (.inl h0)
          clear h0
          go_wp2_with (go_at_call 12; refine hra.mono ?_; rintro e w' ⟨rfl, rfl⟩)
          go_still_tail 10, (by kernel_rfl)
          change wpList _ _ _ _ _ wr.drew
          have hdr : Below wr.heap.size wr wr.drew := (Below.refl _ _).drew
          generalize wr.drew = w3 at hdr ⊢
          have DR := Lib.hid hdr
          have HXX := Lib.hid hx
          clear hdr hx he
          go_wp2_with (go_at_call 14; refine (FA.out _ DR.out).mono ?_; rintro e w4 ⟨rfl, hb4⟩; have B4 := Lib.hid (ST.out.below.trans ((DR.out.trans (hb4.mono DR.out.size)).mono ST.out.below.size)); clear hb4)
          repeat (go_quiet (fail); try go_wp2)
          go_roundw
          case rel =>
            have hB4 := B4.out
            exact ⟨k + 1, _, _, _, by omega, by go_num, rfl, rfl, rfl, ⟨by first | exact hB4 | exact T.below_drewN hB4 _, ST.out.first.skip (SK.out)⟩⟩
          case measure => simp [intOf]; omega
    · obtain rfl : k = n := by omega
      have hfst := ST.out.first
      have HST := Lib.hid hfst
      clear hfst
      rcases HST.out with ⟨rfl, rfl, rfl, h4⟩ | ⟨j, hj, h4, h5, rfl, rfl, rfl⟩
      · have hv : ∀ i, i < k → V i = .nilIface := fun i hi => by
          rcases EI.out i hi with ⟨_, h⟩ | ⟨h, _⟩
          · exact h
          · exact absurd (h4 i hi) h
        have hfn := first_none A k c V wr (by omega) (ER.out.kept ST.out.below) hv
        clear hv h4 HST
        go_wp2_with (first | (go_at_call 18; refine hfn.mono ?_; rintro e w' ⟨rfl, rfl⟩) | (go_at_call 14; refine (fault_ok T .nilIface 0 0 0 (i64_lit _ (by decide)) (i64_lit _ (by decide)) (i64_lit _ (by decide)) _ (errType_kept HET.out BR.out) (HT.out.kept BR.out) (.inl ⟨rfl, rfl⟩)).mono ?_; rintro e w9 ⟨rfl, hb9⟩; have B9 := Lib.hid (BR.out.trans (hb9.mono BR.out.size)); clear hb9))
        go_ret
        exact ⟨rfl, B9.out⟩
      · have hv : ∀ i, i < j → V i = .nilIface := fun i hi => by
          rcases EI.out i (by omega) with ⟨_, h⟩ | ⟨h, _⟩
          · exact h
          · exact absurd (h4 i hi) h
        have hei := (EI.out j hj).kept ST.out.below
        rcases EI.out j hj with ⟨h, _⟩ | ⟨_, p, hp, _⟩
        · exact absurd h h5
        have hfs := first_some A k c j V _ wr (by omega) (ER.out.kept ST.out.below) hj hv hp
        rw [hp] at hei
        have hfi : I64 (F j) := by
          rcases adm_is (M j) cap with h | h | h <;> rw [HF.out] at h <;> rw [h] <;> exact ⟨by decide, by decide⟩
        have hfa := fault_ok T _ (F j) (K j) (M j) hfi (HK.out j) (HM.out j) wr (errType_kept HET.out BR.out) (HT.out.kept BR.out) hei
        clear hv h4 HST h5 hei hp hfi
        go_wp2_with (first | (go_at_call 18; refine hfs.mono ?_; rintro e w' ⟨rfl, rfl⟩) | (go_at_call 14; refine hfa.mono ?_; rintro e w9 ⟨rfl, hb9⟩; have B9 := Lib.hid (BR.out.trans (hb9.mono BR.out.size)); clear hb9))
        go_ret
        exact ⟨rfl, B9.out⟩
end Go.Proofs.YtahbigcjlindeaaDoor.W

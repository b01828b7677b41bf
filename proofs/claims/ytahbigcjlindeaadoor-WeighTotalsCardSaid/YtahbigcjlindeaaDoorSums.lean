/- WeighSums, walked. Conditions: errors.errorType holds the type error; the slices read as functions. -/
import Derived.Test.YtahbigcjlindeaaDoorSmall
import Derived.Test.YtahbigcjlindeaaDoorTots
namespace Go.Proofs.YtahbigcjlindeaaDoor.W
open Go.RowKit Go.Proofs.YtahbigcjlindeaaDoorW.PrintLast Go.Proofs.YtahbigcjlindeaaDoorW.PrintWords
attribute [local go_sem] World.setCell_drew
set_option linter.unusedSimpArgs false
set_option linter.unusedVariables false

theorem infoInt : (Tryd.prog.info? 3).map (fun i => (i.zero, i.size, i.bytes)) = some (some (.int .i64 0), 1, 8) := by kernel_rfl
theorem total_okB {G : Nat → Int} {len : Nat} (a : Option Addr) (cap : Nat) (w : World) (hlen : len ≤ 140737488355328) (hrow : Row w a len G) {s : Int} (hs : (tot G len 0 0).1 = s) (h : (tot G len 0 0).2.1 = 0) :
    Calls Tryd.prog 10 #[.slice a len cap] w fun e w' => e = .returned (.tuple #[.int .i64 s, .nilIface]) ∧ Below w.heap.size w w' :=
  (total_any a len cap G w hlen hrow).mono fun e w' hp => by
    obtain ⟨h1, h2⟩ := hp.1 h
    exact ⟨by rw [h1, hs], h2 ▸ Below.refl _ _⟩
theorem total_errB {G : Nat → Int} {len : Nat} (a : Option Addr) (cap : Nat) (w : World) (hlen : len ≤ 140737488355328) (hrow : Row w a len G) (h : (tot G len 0 0).2.1 ≠ 0) :
    Calls Tryd.prog 10 #[.slice a len cap] w fun e w' => e = .returned (.tuple #[.int .i64 0, .iface 48 (.pointer (some ⟨w.heap.size, 0, none⟩))]) ∧ FaultAt w' w.heap.size (tot G len 0 0).2.1 ((tot G len 0 0).2.2 : Nat) (G (tot G len 0 0).2.2) ∧ Below w.heap.size w w' :=
  (total_any a len cap G w hlen hrow).mono fun e w' hp => by
    obtain ⟨h1, h2⟩ := hp.2 h
    refine ⟨h1, ?_, h2 ▸ below_alloc _ _⟩
    rw [← h2]; exact heapNew _ _
/-- The list of a row. -/
def listOf (n : Nat) (G : Nat → Int) : List Int := (List.range n).map G
theorem listOf_len (n : Nat) (G : Nat → Int) : (listOf n G).length = n := by simp [listOf]
theorem listOf_at (n : Nat) (G : Nat → Int) (i : Nat) (h : i < n) : (listOf n G).getD i 0 = G i := by
  simp [listOf, List.getD_eq_getElem?_getD, h]
theorem Row.reads {w : World} {a : Option Addr} {n : Nat} {G : Nat → Int} (h : Row w a n G) (hn : n ≤ 9223372036854775807) : ReadsInt w .i64 a n (listOf n G) := by
  refine ⟨listOf_len _ _, hn, fun h0 => ?_⟩
  obtain ⟨ad, e, _⟩ := h 0 h0
  refine ⟨ad, e, fun j hj => ?_⟩
  obtain ⟨ad', e', hc⟩ := h j hj
  rw [e] at e'
  injection e' with e'
  subst e'
  rw [listOf_at _ _ _ hj]; exact hc
theorem own_row {w : World} {base n : Nat} {v : Value} {xs : List Int} (h : w.ownsRow base 3 1 v n (nums .i64 xs)) : ∃ A c, v = .slice A n c ∧ Row w A n (fun i => xs.getD i 0) := by
  rcases h.2 with ⟨rfl, rfl⟩ | ⟨g, cap, cur, rfl, _⟩
  · exact ⟨none, 0, rfl, fun i hi => by omega⟩
  · refine ⟨_, _, rfl, fun i hi => ⟨_, rfl, ?_⟩⟩
    have := (own_at h (i : Int) (by omega) (by omega)).1
    rw [add_plain]
    simpa [rd] using this
theorem both_left {la lb : Nat} {G H : Nat → Int} (j : Nat) (h : j < la) : (listOf la G ++ listOf lb H).getD j 0 = G j := by
  rw [List.getD_eq_getElem?_getD, List.getElem?_append_left (by rw [listOf_len]; exact h), ← List.getD_eq_getElem?_getD, listOf_at _ _ _ h]
theorem both_right {la lb : Nat} {G H : Nat → Int} (j : Nat) (h : j < lb) : (listOf la G ++ listOf lb H).getD (j + la) 0 = H j := by
  rw [List.getD_eq_getElem?_getD, List.getElem?_append_right (by rw [listOf_len]; omega), listOf_len, Nat.add_sub_cancel, ← List.getD_eq_getElem?_getD, listOf_at _ _ _ h]
theorem both_len {la lb : Nat} {G H : Nat → Int} : (listOf la G ++ listOf lb H).length = la + lb := by rw [List.length_append, listOf_len, listOf_len]
set_option maxHeartbeats 4000000 in
set_option maxRecDepth 100000 in
theorem sums_any (a : Option Addr) (la ca : Nat) (G : Nat → Int) (b : Option Addr) (lb cb : Nat) (H : Nat → Int) (w : World) (het : Err.ErrType w) (hra : Row w a la G) (hrb : Row w b lb H) :
    Calls Tryd.prog 4 #[.slice a la ca, .slice b lb cb] w fun e w' => e = .returned (.bool true) ∧ Below w.heap.size w w' := by
  have HET := Lib.hid het
  have RA := Lib.hid hra
  have RB := Lib.hid hrb
  clear het hra hrb
  have tb := tot_both (G := G) (H := H) (K := fun i => (listOf la G ++ listOf lb H).getD i 0) (n := la) (m := lb) (fun j h => both_left j h) (fun j h => both_right j h)
  have TB := Lib.hid tb
  clear tb
  have b1 := tot_bd (G := G) la 0 0 (by omega) (by omega)
  have b2 := tot_bd (G := H) lb 0 0 (by omega) (by omega)
  obtain ⟨x, hx⟩ : ∃ x, (tot G la 0 0).1 = x := ⟨_, rfl⟩
  obtain ⟨y, hy⟩ : ∃ y, (tot H lb 0 0).1 = y := ⟨_, rfl⟩
  rw [hx] at b1
  rw [hy] at b2
  have SX := Lib.hid hx
  have SY := Lib.hid hy
  clear hx hy
  have x0 := b1.1
  have x1 := b1.2.1
  have y0 := b2.1
  have y1 := b2.2.1
  clear b1 b2
  go_enter Tryd.func4, Tryd.ntmps4
  go_wp2_with fail
  refine (small_any _ HET.out).mono ?_
  rintro e w1 ⟨rfl, hb1⟩
  have B1 := Lib.hid hb1
  clear hb1
  by_cases h1 : (100 : Int) < la
  · go_wp2_with fail
    go_ret
    exact ⟨rfl, B1.out⟩
  by_cases h2 : (100 : Int) < lb
  · go_wp2_with fail
    go_ret
    exact ⟨rfl, B1.out⟩
  by_cases ha : (tot G la 0 0).2.1 = 0
  · have EA := Lib.hid ha
    clear ha
    by_cases hb : (tot H lb 0 0).2.1 = 0
    · have EB := Lib.hid hb
      clear hb
      by_cases hxy : 4611686018427387903 - y < x
      · have TE2 := Lib.hid ((TB.out.2 EA.out EB.out).1 (by rw [SX.out, SY.out]; exact hxy))
        have TE : Hid ((tot (fun i => (listOf la G ++ listOf lb H).getD i 0) (la + lb) 0 0).2.1 ≠ 0) := Lib.hid (by rw [TE2.out]; decide)
        go_wp2_with fail
        refine (total_okB a ca _ (by omega) (RA.out.kept B1.out) SX.out EA.out).mono ?_
        rintro e w2 ⟨rfl, hb⟩
        have B2 := Lib.hid (B1.out.trans (hb.mono B1.out.size))
        clear hb
        go_wp2_with fail
        refine (total_okB b cb _ (by omega) (RB.out.kept B2.out) SY.out EB.out).mono ?_
        rintro e w3 ⟨rfl, hb⟩
        have B3 := Lib.hid (B2.out.trans (hb.mono B2.out.size))
        clear hb
        go_wp2_with (first
          | (at_builtin; refine print_append_row (w0 := w) w.heap.size rfl (.tmp 33) (.tmp 34) 27 3 .i64 8 rfl Tryd.underlying27 infoInt (by decide) (.slice (some ⟨w3.heap.size, 0, none⟩) 0 0) [] (listOf la G) a la ca rfl rfl (own_lit w3 w.heap.size 3 .i64 [] B3.out.size (by simp)) ((RA.out.kept (B3.out.alloc B3.out.size _)).reads (by omega)) (B3.out.alloc B3.out.size _) (B3.out.alloc B3.out.size (.cells #[] 3)).size (by simp; omega) ?_; intro v5 w5 hown hbd hgd hat; rw [List.nil_append] at hown; have O5 := Lib.hid hown; have B5 := Lib.hid hbd; clear hown hbd hgd hat)
          | (at_builtin; refine print_append_row (w0 := w) w.heap.size rfl (.tmp 35) (.tmp 36) 27 3 .i64 8 rfl Tryd.underlying27 infoInt (by decide) v5 (listOf la G) (listOf lb H) b lb cb rfl rfl O5.out ((RB.out.kept B5.out).reads (by omega)) B5.out B5.out.size (by rw [listOf_len]; omega) ?_; intro v6 w6 hown hbd hgd hat; rw [both_len] at hown; obtain ⟨A6, c6, rfl, hr6⟩ := own_row hown; have R6 := Lib.hid hr6; have B6 := Lib.hid hbd; clear hown hbd hgd hat hr6))
        refine (total_errB A6 c6 _ (by omega) R6.out TE.out).mono ?_
        rintro e w7 ⟨rfl, hf7, hb7⟩
        have F7 := Lib.hid hf7
        have B7 := Lib.hid (B6.out.trans (hb7.mono B6.out.size))
        clear hf7 hb7
        have f7 := F7.out
        rw [TE2.out] at f7
        have F := Lib.hid f7
        clear f7
        go_wp2_with fail
        refine (Err.number_any ⟨_, 0, none⟩ 2 _ (errType_kept HET.out B7.out) F.out.cells.1).mono ?_
        rintro e w8 ⟨rfl, hb8⟩
        have B8 := Lib.hid (B7.out.trans (hb8.mono B7.out.size))
        clear hb8
        go_wp2_with fail
        go_ret
        exact ⟨rfl, B8.out⟩
      · have TE3 := Lib.hid ((TB.out.2 EA.out EB.out).2 (by rw [SX.out, SY.out]; omega))
        have TS : Hid ((tot (fun i => (listOf la G ++ listOf lb H).getD i 0) (la + lb) 0 0).1 = x + y) := Lib.hid (by rw [TE3.out.2, SX.out, SY.out])
        go_wp2_with fail
        refine (total_okB a ca _ (by omega) (RA.out.kept B1.out) SX.out EA.out).mono ?_
        rintro e w2 ⟨rfl, hb⟩
        have B2 := Lib.hid (B1.out.trans (hb.mono B1.out.size))
        clear hb
        go_wp2_with fail
        refine (total_okB b cb _ (by omega) (RB.out.kept B2.out) SY.out EB.out).mono ?_
        rintro e w3 ⟨rfl, hb⟩
        have B3 := Lib.hid (B2.out.trans (hb.mono B2.out.size))
        clear hb
        go_wp2_with (first
          | (at_builtin; refine print_append_row (w0 := w) w.heap.size rfl (.tmp 33) (.tmp 34) 27 3 .i64 8 rfl Tryd.underlying27 infoInt (by decide) (.slice (some ⟨w3.heap.size, 0, none⟩) 0 0) [] (listOf la G) a la ca rfl rfl (own_lit w3 w.heap.size 3 .i64 [] B3.out.size (by simp)) ((RA.out.kept (B3.out.alloc B3.out.size _)).reads (by omega)) (B3.out.alloc B3.out.size _) (B3.out.alloc B3.out.size (.cells #[] 3)).size (by simp; omega) ?_; intro v5 w5 hown hbd hgd hat; rw [List.nil_append] at hown; have O5 := Lib.hid hown; have B5 := Lib.hid hbd; clear hown hbd hgd hat)
          | (at_builtin; refine print_append_row (w0 := w) w.heap.size rfl (.tmp 35) (.tmp 36) 27 3 .i64 8 rfl Tryd.underlying27 infoInt (by decide) v5 (listOf la G) (listOf lb H) b lb cb rfl rfl O5.out ((RB.out.kept B5.out).reads (by omega)) B5.out B5.out.size (by rw [listOf_len]; omega) ?_; intro v6 w6 hown hbd hgd hat; rw [both_len] at hown; obtain ⟨A6, c6, rfl, hr6⟩ := own_row hown; have R6 := Lib.hid hr6; have B6 := Lib.hid hbd; clear hown hbd hgd hat hr6))
        refine (total_okB A6 c6 _ (by omega) R6.out TS.out TE3.out.1).mono ?_
        rintro e w7 ⟨rfl, hb7⟩
        have B7 := Lib.hid (B6.out.trans (hb7.mono B6.out.size))
        clear hb7
        go_wp2_with fail
        go_ret
        exact ⟨rfl, B7.out⟩
    · have EB := Lib.hid hb
      clear hb
      have TE := Lib.hid (TB.out.1 (Or.inr EB.out))
      go_wp2_with fail
      refine (total_okB a ca _ (by omega) (RA.out.kept B1.out) SX.out EA.out).mono ?_
      rintro e w2 ⟨rfl, hb⟩
      have B2 := Lib.hid (B1.out.trans (hb.mono B1.out.size))
      clear hb
      go_wp2_with fail
      refine (total_errB b cb _ (by omega) (RB.out.kept B2.out) EB.out).mono ?_
      rintro e w3 ⟨rfl, -, hb⟩
      have B3 := Lib.hid (B2.out.trans (hb.mono B2.out.size))
      clear hb
      go_wp2_with (first
        | (at_builtin; refine print_append_row (w0 := w) w.heap.size rfl (.tmp 33) (.tmp 34) 27 3 .i64 8 rfl Tryd.underlying27 infoInt (by decide) (.slice (some ⟨w3.heap.size, 0, none⟩) 0 0) [] (listOf la G) a la ca rfl rfl (own_lit w3 w.heap.size 3 .i64 [] B3.out.size (by simp)) ((RA.out.kept (B3.out.alloc B3.out.size _)).reads (by omega)) (B3.out.alloc B3.out.size _) (B3.out.alloc B3.out.size (.cells #[] 3)).size (by simp; omega) ?_; intro v5 w5 hown hbd hgd hat; rw [List.nil_append] at hown; have O5 := Lib.hid hown; have B5 := Lib.hid hbd; clear hown hbd hgd hat)
        | (at_builtin; refine print_append_row (w0 := w) w.heap.size rfl (.tmp 35) (.tmp 36) 27 3 .i64 8 rfl Tryd.underlying27 infoInt (by decide) v5 (listOf la G) (listOf lb H) b lb cb rfl rfl O5.out ((RB.out.kept B5.out).reads (by omega)) B5.out B5.out.size (by rw [listOf_len]; omega) ?_; intro v6 w6 hown hbd hgd hat; rw [both_len] at hown; obtain ⟨A6, c6, rfl, hr6⟩ := own_row hown; have R6 := Lib.hid hr6; have B6 := Lib.hid hbd; clear hown hbd hgd hat hr6))
      refine (total_errB A6 c6 _ (by omega) R6.out TE.out).mono ?_
      rintro e w7 ⟨rfl, hf7, hb7⟩
      have F7 := Lib.hid hf7
      have B7 := Lib.hid (B6.out.trans (hb7.mono B6.out.size))
      clear hf7 hb7
      go_wp2_with fail
      go_ret
      exact ⟨rfl, B7.out⟩
  · have EA := Lib.hid ha
    clear ha
    by_cases hb : (tot H lb 0 0).2.1 = 0
    · have EB := Lib.hid hb
      clear hb
      have TE := Lib.hid (TB.out.1 (Or.inl EA.out))
      go_wp2_with fail
      refine (total_errB a ca _ (by omega) (RA.out.kept B1.out) EA.out).mono ?_
      rintro e w2 ⟨rfl, -, hb⟩
      have B2 := Lib.hid (B1.out.trans (hb.mono B1.out.size))
      clear hb
      go_wp2_with fail
      refine (total_okB b cb _ (by omega) (RB.out.kept B2.out) SY.out EB.out).mono ?_
      rintro e w3 ⟨rfl, hb⟩
      have B3 := Lib.hid (B2.out.trans (hb.mono B2.out.size))
      clear hb
      go_wp2_with (first
        | (at_builtin; refine print_append_row (w0 := w) w.heap.size rfl (.tmp 33) (.tmp 34) 27 3 .i64 8 rfl Tryd.underlying27 infoInt (by decide) (.slice (some ⟨w3.heap.size, 0, none⟩) 0 0) [] (listOf la G) a la ca rfl rfl (own_lit w3 w.heap.size 3 .i64 [] B3.out.size (by simp)) ((RA.out.kept (B3.out.alloc B3.out.size _)).reads (by omega)) (B3.out.alloc B3.out.size _) (B3.out.alloc B3.out.size (.cells #[] 3)).size (by simp; omega) ?_; intro v5 w5 hown hbd hgd hat; rw [List.nil_append] at hown; have O5 := Lib.hid hown; have B5 := Lib.hid hbd; clear hown hbd hgd hat)
        | (at_builtin; refine print_append_row (w0 := w) w.heap.size rfl (.tmp 35) (.tmp 36) 27 3 .i64 8 rfl Tryd.underlying27 infoInt (by decide) v5 (listOf la G) (listOf lb H) b lb cb rfl rfl O5.out ((RB.out.kept B5.out).reads (by omega)) B5.out B5.out.size (by rw [listOf_len]; omega) ?_; intro v6 w6 hown hbd hgd hat; rw [both_len] at hown; obtain ⟨A6, c6, rfl, hr6⟩ := own_row hown; have R6 := Lib.hid hr6; have B6 := Lib.hid hbd; clear hown hbd hgd hat hr6))
      refine (total_errB A6 c6 _ (by omega) R6.out TE.out).mono ?_
      rintro e w7 ⟨rfl, hf7, hb7⟩
      have F7 := Lib.hid hf7
      have B7 := Lib.hid (B6.out.trans (hb7.mono B6.out.size))
      clear hf7 hb7
      go_wp2_with fail
      go_ret
      exact ⟨rfl, B7.out⟩
    · have EB := Lib.hid hb
      clear hb
      have TE := Lib.hid (TB.out.1 (Or.inl EA.out))
      go_wp2_with fail
      refine (total_errB a ca _ (by omega) (RA.out.kept B1.out) EA.out).mono ?_
      rintro e w2 ⟨rfl, -, hb⟩
      have B2 := Lib.hid (B1.out.trans (hb.mono B1.out.size))
      clear hb
      go_wp2_with fail
      refine (total_errB b cb _ (by omega) (RB.out.kept B2.out) EB.out).mono ?_
      rintro e w3 ⟨rfl, -, hb⟩
      have B3 := Lib.hid (B2.out.trans (hb.mono B2.out.size))
      clear hb
      go_wp2_with (first
        | (at_builtin; refine print_append_row (w0 := w) w.heap.size rfl (.tmp 33) (.tmp 34) 27 3 .i64 8 rfl Tryd.underlying27 infoInt (by decide) (.slice (some ⟨w3.heap.size, 0, none⟩) 0 0) [] (listOf la G) a la ca rfl rfl (own_lit w3 w.heap.size 3 .i64 [] B3.out.size (by simp)) ((RA.out.kept (B3.out.alloc B3.out.size _)).reads (by omega)) (B3.out.alloc B3.out.size _) (B3.out.alloc B3.out.size (.cells #[] 3)).size (by simp; omega) ?_; intro v5 w5 hown hbd hgd hat; rw [List.nil_append] at hown; have O5 := Lib.hid hown; have B5 := Lib.hid hbd; clear hown hbd hgd hat)
        | (at_builtin; refine print_append_row (w0 := w) w.heap.size rfl (.tmp 35) (.tmp 36) 27 3 .i64 8 rfl Tryd.underlying27 infoInt (by decide) v5 (listOf la G) (listOf lb H) b lb cb rfl rfl O5.out ((RB.out.kept B5.out).reads (by omega)) B5.out B5.out.size (by rw [listOf_len]; omega) ?_; intro v6 w6 hown hbd hgd hat; rw [both_len] at hown; obtain ⟨A6, c6, rfl, hr6⟩ := own_row hown; have R6 := Lib.hid hr6; have B6 := Lib.hid hbd; clear hown hbd hgd hat hr6))
      refine (total_errB A6 c6 _ (by omega) R6.out TE.out).mono ?_
      rintro e w7 ⟨rfl, hf7, hb7⟩
      have F7 := Lib.hid hf7
      have B7 := Lib.hid (B6.out.trans (hb7.mono B6.out.size))
      clear hf7 hb7
      go_wp2_with fail
      go_ret
      exact ⟨rfl, B7.out⟩
end Go.Proofs.YtahbigcjlindeaaDoor.W

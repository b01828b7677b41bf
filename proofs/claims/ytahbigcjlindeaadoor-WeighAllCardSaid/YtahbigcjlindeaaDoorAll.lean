/- weigh.All: of each key whether it may come in. Conditions: the slices read as functions; the keys are of everyday number. -/
import Derived.Test.YtahbigcjlindeaaDoorTotal
import Derived.Test.YtahbigcjlindeaaDoorWWords
import Derived.Test.YtahbigcjlindeaaDoorWLast
import Derived.Deep.DeepCutAuto
namespace Go.Proofs.YtahbigcjlindeaaDoor.W
open Go.RowKit Go.Proofs.YtahbigcjlindeaaDoorW.PrintLast Go.Proofs.YtahbigcjlindeaaDoorW.PrintWords
attribute [local go_sem] World.setCell_drew
set_option linter.unusedSimpArgs false
set_option linter.unusedVariables false

theorem infoErr : (Tryd.prog.info? 24).map (fun i => (i.zero, i.size, i.bytes)) = some (some .nilIface, 1, 16) := by kernel_rfl
/-- A value is the error of a number, a key, and how much. -/
def ErrIs (w : World) (v : Value) (n k m : Int) : Prop := (n = 0 ∧ v = .nilIface) ∨ (n ≠ 0 ∧ ∃ b, v = .iface 48 (.pointer (some ⟨b, 0, none⟩)) ∧ FaultAt w b n k m)
theorem ErrIs.kept {w w' : World} {v : Value} {n k m : Int} (h : ErrIs w v n k m) (hb : Below w.heap.size w w') : ErrIs w' v n k m := by
  rcases h with h | ⟨h1, b, h2, h3⟩
  · exact .inl h
  · exact .inr ⟨h1, b, h2, h3.kept hb⟩
/-- It outlives an append onto a row of errors. -/
theorem ErrIs.grown {w w' : World} {v V : Value} {n k m : Int} {base N : Nat} {xs : List Value} (h : ErrIs w v n k m) (ho : w.ownsRow base 24 1 V N xs) (hg : w.grownBy w' V.ownBlock) : ErrIs w' v n k m := by
  rcases h with h | ⟨h1, b, h2, h3⟩
  · exact .inl h
  · exact .inr ⟨h1, b, h2, blk_grown h3 hg (own_ne ho h3 (by decide))⟩
theorem ErrIs.one {w : World} {v : Value} {n k m : Int} (h : ErrIs w v n k m) : v.oneCell' = true := by
  rcases h with ⟨_, rfl⟩ | ⟨_, b, rfl, _⟩ <;> rfl
/-- A weight, none where none stands. -/
def wOf (n : Nat) (G : Nat → Int) (i : Nat) : Int := if i < n then G i else 0
/-- What a row of errors holds. -/
def Errs (w : World) (Es : List Value) (F K M : Nat → Int) (k : Nat) : Prop := Es.length = k ∧ ∀ i, i < k → ∃ v, Es[i]? = some v ∧ ErrIs w v (F i) (K i) (M i)
theorem Errs.snoc {w w' : World} {Es : List Value} {F K M : Nat → Int} {k : Nat} {v : Value} (h : Errs w Es F K M k) (hw : ∀ u n x m, ErrIs w u n x m → ErrIs w' u n x m) (hv : ErrIs w' v (F k) (K k) (M k)) : Errs w' (Es ++ [v]) F K M (k + 1) := by
  refine ⟨by simp [h.1], fun i hi => ?_⟩
  by_cases hk : i < k
  · obtain ⟨u, h1, h2⟩ := h.2 i hk
    exact ⟨u, by rw [List.getElem?_append_left (by rw [h.1]; exact hk)]; exact h1, hw _ _ _ _ h2⟩
  · obtain rfl : i = k := by omega
    exact ⟨v, by rw [List.getElem?_append_right (by rw [h.1]; omega), h.1, Nat.sub_self]; rfl, hv⟩
structure AllSt (w wr : World) (A : Option Addr) (c k : Nat) (Es : List Value) (F K M : Nat → Int) : Prop where
  own : wr.ownsRow w.heap.size 24 1 (.slice A k c) k Es
  errs : Errs wr Es F K M k
  below : Below w.heap.size w wr
/-- Behind a round's Admit. -/
structure AllPre (w wr : World) (A : Option Addr) (c k : Nat) (Es : List Value) (F K M : Nat → Int) (v : Value) : Prop where
  own : wr.ownsRow w.heap.size 24 1 (.slice A k c) k Es
  errs : Errs wr Es F K M k
  below : Below w.heap.size w wr
  v : ErrIs wr v (F k) (K k) (M k)
theorem AllSt.yes {w wr : World} {A : Option Addr} {c k : Nat} {Es : List Value} {F K M : Nat → Int} (h : AllSt w wr A c k Es F K M) (hF : F k = 0) : AllPre w wr A c k Es F K M .nilIface :=
  ⟨h.own, h.errs, h.below, .inl ⟨hF, rfl⟩⟩
theorem below_alloc (w : World) (o : Obj) : Below w.heap.size w (w.alloc o) := (Below.refl _ _).alloc (Nat.le_refl _) _
theorem AllSt.no {w wr : World} {A : Option Addr} {c k : Nat} {Es : List Value} {F K M : Nat → Int} (h : AllSt w wr A c k Es F K M) (hF : F k ≠ 0) : AllPre w (wr.alloc (.cells #[.int .i64 (F k), .int .i64 (K k), .int .i64 (M k)] 52)) A c k Es F K M (.iface 48 (.pointer (some ⟨wr.heap.size, 0, none⟩))) :=
  ⟨h.own.alloc _, ⟨h.errs.1, fun i hi => by obtain ⟨u, h1, h2⟩ := h.errs.2 i hi; exact ⟨u, h1, h2.kept (below_alloc _ _)⟩⟩, h.below.alloc h.below.size _, .inr ⟨hF, _, rfl, heapNew _ _⟩⟩
theorem AllPre.put {w wr w1 : World} {A : Option Addr} {c k : Nat} {Es : List Value} {F K M : Nat → Int} {v v1 : Value} (h : AllPre w wr A c k Es F K M v)
    (hown : w1.ownsRow w.heap.size 24 1 v1 (Es ++ [v]).length (Es ++ [v])) (hb : Below w.heap.size w w1) (hg : wr.grownBy w1 (Value.slice A k c).ownBlock) : ∃ A1 c1, v1 = .slice A1 (k + 1) c1 ∧ AllSt w w1 A1 c1 (k + 1) (Es ++ [v]) F K M := by
  have he := h.errs.snoc (w' := w1) (fun u n x m hu => hu.grown h.own hg) (h.v.grown h.own hg)
  rw [he.1] at hown
  rcases hown.2 with ⟨rfl, hn⟩ | ⟨g, cap, cur, rfl, _⟩
  · omega
  · exact ⟨_, _, rfl, hown, he, hb⟩
/-- How All ends. -/
def AllPost (n : Nat) (F K M : Nat → Int) (w : World) (e : Ending) (w' : World) : Prop := ∃ A c Es, e = .returned (.slice A n c) ∧ AllSt w w' A c n Es F K M

set_option maxRecDepth 100000 in
set_option maxHeartbeats 4000000 in
theorem all_any (a : Option Addr) (n c0 : Nat) (K : Nat → Int) (a2 : Option Addr) (n2 c2 : Nat) (G : Nat → Int) (cap : Int) (w : World) (hn : n ≤ 1000) (hn2 : n2 ≤ 140737488355328) (hrow : Row w a n K) (hrow2 : Row w a2 n2 G) :
    Calls Tryd.prog 17 #[.slice a n c0, .slice a2 n2 c2, .int .i64 cap] w (AllPost n (fun i => adm (wOf n2 G i) cap) K (wOf n2 G) w) := by
  have HR := Lib.hid hrow
  have HR2 := Lib.hid hrow2
  clear hrow hrow2
  obtain ⟨F, hF⟩ : ∃ F : Nat → Int, F = fun i => adm (wOf n2 G i) cap := ⟨_, rfl⟩
  rw [← hF]
  have HF := Lib.hid hF
  clear hF
  go_enter Tryd.func17, Tryd.ntmps17
  go_wp2
  go_loopw [7, 13] (fun v i wr => ∃ (k : Nat) (A : Option Addr) (c : Nat) (Es : List Value), k ≤ n ∧ i = .int .i64 k ∧ v = .slice A k c ∧ AllSt w wr A c k Es F K (wOf n2 G)) (fun _ i _ => n - (intOf i).toNat)
  case atStart => exact ⟨0, none, 0, [], by omega, rfl, rfl, ⟨⟨rfl, .inl ⟨rfl, rfl⟩⟩, ⟨rfl, fun i hi => by omega⟩, Below.refl _ _⟩⟩
  case round =>
    obtain ⟨k, A, c, Es, hk, rfl, rfl, hst⟩ := hrel
    rename World => wr
    have SA := Lib.hid hst
    clear hst
    have hEs : Es.length = k := SA.out.errs.1
    have HE := Lib.hid hEs
    clear hEs
    by_cases hlt : k < n
    · obtain ⟨ad, rfl, hx⟩ := HR.out.kept SA.out.below k hlt
      by_cases hw : k < n2
      · obtain ⟨ad2, rfl, hx2⟩ := HR2.out.kept SA.out.below k hw
        have hwk : wOf n2 G k = G k := by unfold wOf; rw [if_pos hw]
        have HWK := Lib.hid hwk
        clear hwk
        by_cases ha : F k = 0
        · have ha' : adm (G k) cap = 0 := by have e : F k = adm (wOf n2 G k) cap := congrFun HF.out k; rw [HWK.out] at e; rw [← e]; exact ha
          have P := Lib.hid (SA.out.yes ha)
          clear ha
          have hadm := admit_yes (K k) (G k) cap wr ha'
          clear ha'
          go_wp2_with (first | (go_at_call 9; refine hadm.mono ?_; rintro e w' ⟨rfl, rfl⟩) | (at_builtin; refine print_append (w0 := w) w.heap.size rfl (.tmp 26) (.tmp 31) 41 24 .nilIface 16 rfl Tryd.underlying41 infoErr rfl (by decide) (.slice A k c) Es .nilIface rfl rfl P.out.v.one (by rw [HE.out]; exact P.out.own) P.out.below P.out.below.size (by rw [HE.out]; omega) ?_; intro v1 w1 hown hbd hgd hat; obtain ⟨A1, c1, rfl, hS⟩ := P.out.put hown hbd hgd; have SD := Lib.hid hS; clear hown hbd hgd hat hS))
          go_roundw
          case rel => exact ⟨k + 1, A1, c1, _, by omega, by go_num, by go_num, SD.out⟩
          case measure => simp [intOf]; omega
        · have ha' : F k = adm (G k) cap := by have e : F k = adm (wOf n2 G k) cap := congrFun HF.out k; rw [HWK.out] at e; exact e
          have P : Hid (AllPre w (wr.alloc (.cells #[.int .i64 (adm (G k) cap), .int .i64 (K k), .int .i64 (G k)] 52)) A c k Es F K (wOf n2 G) (.iface 48 (.pointer (some ⟨wr.heap.size, 0, none⟩)))) := by
            have := SA.out.no ha
            rw [ha', HWK.out] at this
            exact Lib.hid this
          rw [ha'] at ha
          have hadm := (admit_no (K k) (G k) cap wr ha).mono (R' := fun e w' => e = .returned (.iface 48 (.pointer (some ⟨wr.heap.size, 0, none⟩))) ∧ AllPre w w' A c k Es F K (wOf n2 G) (.iface 48 (.pointer (some ⟨wr.heap.size, 0, none⟩)))) (fun e w' ⟨h1, h2⟩ => ⟨h1, h2 ▸ P.out⟩)
          clear ha ha' P
          go_wp2_with (first | (go_at_call 9; refine hadm.mono ?_; rintro e w' ⟨rfl, hP⟩; have P := Lib.hid hP; clear hP) | (at_builtin; refine print_append (w0 := w) w.heap.size rfl (.tmp 26) (.tmp 31) 41 24 .nilIface 16 rfl Tryd.underlying41 infoErr rfl (by decide) (.slice A k c) Es (.iface 48 (.pointer (some ⟨wr.heap.size, 0, none⟩))) rfl rfl P.out.v.one (by rw [HE.out]; exact P.out.own) P.out.below P.out.below.size (by rw [HE.out]; omega) ?_; intro v1 w1 hown hbd hgd hat; obtain ⟨A1, c1, rfl, hS⟩ := P.out.put hown hbd hgd; have SD := Lib.hid hS; clear hown hbd hgd hat hS))
          go_roundw
          case rel => exact ⟨k + 1, A1, c1, _, by omega, by go_num, by go_num, SD.out⟩
          case measure => simp [intOf]; omega
      · have hwk : wOf n2 G k = 0 := by unfold wOf; rw [if_neg hw]
        have HWK := Lib.hid hwk
        clear hwk
        by_cases ha : F k = 0
        · have ha' : adm (0) cap = 0 := by have e : F k = adm (wOf n2 G k) cap := congrFun HF.out k; rw [HWK.out] at e; rw [← e]; exact ha
          have P := Lib.hid (SA.out.yes ha)
          clear ha
          have hadm := admit_yes (K k) (0) cap wr ha'
          clear ha'
          go_wp2_with (first | (go_at_call 9; refine hadm.mono ?_; rintro e w' ⟨rfl, rfl⟩) | (at_builtin; refine print_append (w0 := w) w.heap.size rfl (.tmp 26) (.tmp 31) 41 24 .nilIface 16 rfl Tryd.underlying41 infoErr rfl (by decide) (.slice A k c) Es .nilIface rfl rfl P.out.v.one (by rw [HE.out]; exact P.out.own) P.out.below P.out.below.size (by rw [HE.out]; omega) ?_; intro v1 w1 hown hbd hgd hat; obtain ⟨A1, c1, rfl, hS⟩ := P.out.put hown hbd hgd; have SD := Lib.hid hS; clear hown hbd hgd hat hS))
          go_roundw
          case rel => exact ⟨k + 1, A1, c1, _, by omega, by go_num, by go_num, SD.out⟩
          case measure => simp [intOf]; omega
        · have ha' : F k = adm (0) cap := by have e : F k = adm (wOf n2 G k) cap := congrFun HF.out k; rw [HWK.out] at e; exact e
          have P : Hid (AllPre w (wr.alloc (.cells #[.int .i64 (adm (0) cap), .int .i64 (K k), .int .i64 (0)] 52)) A c k Es F K (wOf n2 G) (.iface 48 (.pointer (some ⟨wr.heap.size, 0, none⟩)))) := by
            have := SA.out.no ha
            rw [ha', HWK.out] at this
            exact Lib.hid this
          rw [ha'] at ha
          have hadm := (admit_no (K k) (0) cap wr ha).mono (R' := fun e w' => e = .returned (.iface 48 (.pointer (some ⟨wr.heap.size, 0, none⟩))) ∧ AllPre w w' A c k Es F K (wOf n2 G) (.iface 48 (.pointer (some ⟨wr.heap.size, 0, none⟩)))) (fun e w' ⟨h1, h2⟩ => ⟨h1, h2 ▸ P.out⟩)
          clear ha ha' P
          go_wp2_with (first | (go_at_call 9; refine hadm.mono ?_; rintro e w' ⟨rfl, hP⟩; have P := Lib.hid hP; clear hP) | (at_builtin; refine print_append (w0 := w) w.heap.size rfl (.tmp 26) (.tmp 31) 41 24 .nilIface 16 rfl Tryd.underlying41 infoErr rfl (by decide) (.slice A k c) Es (.iface 48 (.pointer (some ⟨wr.heap.size, 0, none⟩))) rfl rfl P.out.v.one (by rw [HE.out]; exact P.out.own) P.out.below P.out.below.size (by rw [HE.out]; omega) ?_; intro v1 w1 hown hbd hgd hat; obtain ⟨A1, c1, rfl, hS⟩ := P.out.put hown hbd hgd; have SD := Lib.hid hS; clear hown hbd hgd hat hS))
          go_roundw
          case rel => exact ⟨k + 1, A1, c1, _, by omega, by go_num, by go_num, SD.out⟩
          case measure => simp [intOf]; omega
    · obtain rfl : k = n := by omega
      go_wp2
      go_ret
      exact ⟨A, c, Es, rfl, SA.out⟩
end Go.Proofs.YtahbigcjlindeaaDoor.W

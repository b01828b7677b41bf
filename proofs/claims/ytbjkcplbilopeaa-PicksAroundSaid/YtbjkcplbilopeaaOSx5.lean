/- Walks of the Go functions that the statement reaches: each call answers what the plain Lean function beside it says (a step on the way to the statement). Written by a program of the session's own; not a printed file. No conditions. -/
import Derived.Test.YtbjkcplbilopeaaOSx0
namespace Go.Proofs.Ytbjkcplbilopeaa.OS
open Go.RowKit Go.Proofs.YtbjkcplbilopeaaW.PrintWords Go.Proofs.YtbjkcplbilopeaaW.PrintLast Go.Proofs.YtbjkcplbilopeaaW.PrintMore
attribute [local go_sem] max2_int min2_int max_two min_two max_three min_three max_four min_four   -- for this text's walks alone
set_option linter.unusedVariables false
set_option linter.unusedSimpArgs false

/-! ### picks_longest: function 21: the session's own text -/
/-- Is it a thread? -/
def longIn (th t : Int) : Bool := decide (0 ≤ t) && decide (t < th)
/-- Where t stands last among the first k; -1: nowhere. -/
def lastK (l : List Int) (t : Int) : Nat → Int
  | 0 => -1
  | k + 1 => if rd l (k : Int) = t then (k : Int) else lastK l t k
/-- The longest row without its thread, that ends at that thread, among the first k. -/
def mostK (l : List Int) (th : Int) : Nat → Int
  | 0 => 0
  | k + 1 => if longIn th (rd l (k : Int)) = true then mx (mostK l th k) ((k : Int) - lastK l (rd l (k : Int)) k - 1) else mostK l th k
/-- How many threads stand among the first k. -/
def cntK (l : List Int) (th : Int) : Nat → Nat
  | 0 => 0
  | k + 1 => if longIn th (rd l (k : Int)) = true ∧ lastK l (rd l (k : Int)) k = -1 then cntK l th k + 1 else cntK l th k
/-- .. and what is behind each thread's last place. -/
def tailK (l : List Int) (m : Int) : Nat → Int
  | 0 => m
  | t + 1 => if lastK l (t : Int) l.length = -1 then tailK l m t else mx (tailK l m t) ((l.length : Int) - 1 - lastK l (t : Int) l.length)
def longV (l : List Int) (th : Int) : Int :=
  if (cntK l th l.length : Int) < th then (l.length : Int) else tailK l (mostK l th l.length) th.toNat
def picks_longest.f (l : List Int) (th : Int) : Option Int :=
  if 1 ≤ th ∧ th ≤ 4096 ∧ l.length ≤ 100000 then some (longV l th) else none

theorem lastK_is (l : List Int) (t : Int) : ∀ k : Nat, -1 ≤ lastK l t k ∧ lastK l t k < (k : Int) := by
  intro k
  induction k with
  | zero => simp [lastK]
  | succ k ih =>
    unfold lastK
    split <;> omega
theorem mostK_is (l : List Int) (th : Int) : ∀ k : Nat, 0 ≤ mostK l th k ∧ mostK l th k ≤ (k : Int) := by
  intro k
  induction k with
  | zero => simp [mostK]
  | succ k ih =>
    have := lastK_is l (rd l (k : Int)) k
    unfold mostK mx
    repeat' split
    all_goals omega
theorem tailK_is (l : List Int) (m : Int) (hm : 0 ≤ m ∧ m ≤ (l.length : Int)) : ∀ n : Nat, 0 ≤ tailK l m n ∧ tailK l m n ≤ (l.length : Int) := by
  intro n
  induction n with
  | zero => simpa [tailK] using hm
  | succ n ih =>
    have := lastK_is l (n : Int) l.length
    unfold tailK mx
    repeat' split
    all_goals omega
theorem tailK_ge (l : List Int) (m : Int) : ∀ n : Nat, m ≤ tailK l m n := by
  intro n
  induction n with
  | zero => simp [tailK]
  | succ n ih =>
    unfold tailK mx
    repeat' split
    all_goals omega
theorem tailK_at (l : List Int) (m : Int) (t : Nat) (ht : lastK l (t : Int) l.length ≠ -1) : ∀ n : Nat, t < n → (l.length : Int) - 1 - lastK l (t : Int) l.length ≤ tailK l m n := by
  intro n h
  induction n with
  | zero => omega
  | succ n ih =>
    unfold tailK
    by_cases e : t = n
    · subst e; rw [if_neg ht]; unfold mx; split <;> omega
    · have := ih (by omega)
      unfold mx
      repeat' split
      all_goals omega
theorem tailK_le (l : List Int) (m M : Int) (hm : m ≤ M) : ∀ n : Nat, (∀ t : Nat, t < n → lastK l (t : Int) l.length ≠ -1 → (l.length : Int) - 1 - lastK l (t : Int) l.length ≤ M) → tailK l m n ≤ M := by
  intro n h
  induction n with
  | zero => simpa [tailK] using hm
  | succ n ih =>
    have h1 := ih (fun t ht => h t (by omega))
    have h2 := h n (by omega)
    unfold tailK mx
    by_cases e : lastK l (n : Int) l.length = -1
    · rw [if_pos e]; exact h1
    · rw [if_neg e]; have := h2 e; split <;> omega

/-- The map behind the first k. -/
def MapIs (D : DataW Unit) (l : List Int) (th : Int) (k : Nat) : Prop :=
  (∀ t, Maps.has D (.int .i64 t) = (longIn th t && !(lastK l t k == -1))) ∧ (∀ t, longIn th t = true → lastK l t k ≠ -1 → D.atKey (.int .i64 t) (.lit (.int .i64 0)) = .lit (.int .i64 (lastK l t k))) ∧ Maps.size D = cntK l th k
theorem mapIs_start (l : List Int) (th : Int) : MapIs (.map []) l th 0 := by
  refine ⟨fun t => ?_, fun t _ h => absurd rfl h, rfl⟩
  simp [lastK, Maps.has]
theorem mapIs_skip {D : DataW Unit} {l : List Int} {th : Int} {k : Nat} (h : MapIs D l th k) (hn : longIn th (rd l (k : Int)) = false) : MapIs D l th (k + 1) := by
  obtain ⟨h1, h2, h3⟩ := h
  have e : ∀ t, longIn th t = true → lastK l t (k + 1) = lastK l t k := by
    intro t ht
    have : rd l (k : Int) ≠ t := by intro e; rw [e, ht] at hn; cases hn
    simp [lastK, this]
  refine ⟨fun t => ?_, fun t ht hl => ?_, ?_⟩
  · rw [h1 t]
    cases ht : longIn th t
    · rfl
    · rw [e t ht]
  · rw [e t ht] at hl ⊢
    exact h2 t ht hl
  · rw [h3]; simp [cntK, hn]
theorem mapIs_put {D : DataW Unit} {l : List Int} {th : Int} {k : Nat} (h : MapIs D l th k) (hT : Maps.Tidy D) (hn : longIn th (rd l (k : Int)) = true) : MapIs (D.put (.int .i64 (rd l (k : Int))) (.lit (.int .i64 (k : Int)))) l th (k + 1) := by
  obtain ⟨h1, h2, h3⟩ := h
  refine ⟨fun t => ?_, fun t ht hl => ?_, ?_⟩
  · by_cases e : rd l (k : Int) = t
    · subst e
      rw [Maps.has_put_same (k := .int .i64 (rd l (k : Int))) hT.isMap trivial, hn]
      have : ¬ ((k : Int) = -1) := by omega
      simp [lastK, this]
    · rw [Maps.has_put_other (by intro e'; cases e'; exact e rfl), h1 t]
      simp [lastK, e]
  · by_cases e : rd l (k : Int) = t
    · subst e
      rw [Maps.atKey_put_same (k := .int .i64 (rd l (k : Int))) hT.isMap trivial]
      simp [lastK]
    · rw [Maps.atKey_put_other (by intro e'; cases e'; exact e rfl)]
      simp only [lastK, if_neg e] at hl ⊢
      exact h2 t ht hl
  · rw [Maps.size_put hT, h1, hn]
    unfold cntK
    by_cases e : lastK l (rd l (k : Int)) k = -1
    · simp [e, hn, h3]
    · simp [e, h3]
theorem longIn_yes {th t : Int} (h0 : ¬ t < 0) (h1 : ¬ th ≤ t) : longIn th t = true := by unfold longIn; simp; omega
theorem longIn_no {th t : Int} (h : t < 0 ∨ th ≤ t) : longIn th t = false := by unfold longIn; simp; omega
theorem mostK_new {l : List Int} {th t : Int} {i : Nat} (ht : t = rd l (i : Int)) (hin : longIn th t = true) (hl : lastK l t i = -1) : (if mostK l th i < (i : Int) then (i : Int) else mostK l th i) = mostK l th (i + 1) := by
  subst ht
  conv => rhs; unfold mostK
  rw [if_pos hin, hl]
  unfold mx
  rw [show (i : Int) - -1 - 1 = (i : Int) from by omega]
theorem mostK_old {l : List Int} {th t c : Int} {i : Nat} (ht : t = rd l (i : Int)) (hin : longIn th t = true) (hc : c = lastK l t i) : (if mostK l th i < (i : Int) - c - 1 then (i : Int) - c - 1 else mostK l th i) = mostK l th (i + 1) := by
  subst ht; subst hc
  conv => rhs; unfold mostK
  rw [if_pos hin]
  rfl
theorem mostK_skip {l : List Int} {th t : Int} {i : Nat} (ht : t = rd l (i : Int)) (hin : longIn th t = false) : mostK l th i = mostK l th (i + 1) := by
  subst ht
  conv => rhs; unfold mostK
  rw [hin]; rfl
/-- The range over the map: what has come is counted. -/
def RangeIs (D : DataW Unit) (l : List Int) (th : Int) (left : Lit → Bool) (m : Int) : Prop :=
  mostK l th l.length ≤ m ∧ m ≤ tailK l (mostK l th l.length) th.toNat ∧ ∀ t, Maps.has D (.int .i64 t) = true → left (.int .i64 t) = false → (l.length : Int) - 1 - lastK l t l.length ≤ m
theorem rangeIs_start {D : DataW Unit} {l : List Int} {th : Int} : RangeIs D l th (Maps.has D) (mostK l th l.length) :=
  ⟨Int.le_refl _, tailK_ge _ _ _, fun t h1 h2 => by rw [h1] at h2; cases h2⟩
theorem longIn_iff {th t : Int} : longIn th t = true ↔ 0 ≤ t ∧ t < th := by unfold longIn; simp
theorem rangeIs_step {D : DataW Unit} {l : List Int} {th : Int} {left : Lit → Bool} {m x c : Int} (hI : MapIs D l th l.length) (h : RangeIs D l th left m) (hx : Maps.has D (.int .i64 x) = true) (hc : D.atKey (.int .i64 x) (.lit (.int .i64 0)) = .lit (.int .i64 c)) :
    RangeIs D l th (fun z => left z && !z.sameKey (.int .i64 x)) (if m < (l.length : Int) - 1 - c then (l.length : Int) - 1 - c else m) := by
  obtain ⟨h1, h2, h3⟩ := h
  have hx' := hx
  rw [hI.1 x] at hx'
  have hin : longIn th x = true := by cases e : longIn th x <;> simp [e] at hx' ⊢
  have hne : lastK l x l.length ≠ -1 := by
    intro e
    rw [e, hin] at hx'
    exact absurd hx' (by decide)
  have hcx := hI.2.1 x hin hne
  rw [hc] at hcx
  have ec : c = lastK l x l.length := by injection hcx with e; injection e
  subst ec
  obtain ⟨i0, i1⟩ := longIn_iff.1 hin
  have hat := tailK_at l (mostK l th l.length) x.toNat (by rw [Int.toNat_of_nonneg i0]; exact hne) th.toNat (by omega)
  rw [Int.toNat_of_nonneg i0] at hat
  refine ⟨by split <;> omega, by split <;> omega, fun t ht hl => ?_⟩
  by_cases e : t = x
  · subst e; split <;> omega
  · have hs : Lit.sameKey (.int .i64 t) (.int .i64 x) = false := Maps.sameKey_ne (by intro e'; cases e'; exact e rfl)
    have hl' : left (.int .i64 t) = false := by
      cases hlt : left (.int .i64 t)
      · rfl
      · simp [hlt, hs] at hl
    have := h3 t ht hl'
    split <;> omega
theorem rangeIs_end {D : DataW Unit} {l : List Int} {th : Int} {left : Lit → Bool} {m : Int} (hI : MapIs D l th l.length) (h : RangeIs D l th left m) (hl : ∀ kl, left kl = false) (hc : ¬ (Maps.size D : Int) < th) : m = longV l th := by
  obtain ⟨h1, h2, h3⟩ := h
  unfold longV
  rw [if_neg (by rw [← hI.2.2]; exact hc)]
  refine Int.le_antisymm h2 (tailK_le _ _ _ h1 _ fun t ht hne => ?_)
  refine h3 t ?_ (hl _)
  rw [hI.1, longIn_iff.2 ⟨by omega, by omega⟩]
  simp [hne]
theorem longV_few {D : DataW Unit} {l : List Int} {th : Int} (hI : MapIs D l th l.length) (hc : (Maps.size D : Int) < th) : (l.length : Int) = longV l th := by
  unfold longV
  rw [if_pos (by rw [← hI.2.2]; exact hc)]
theorem longRet {a b : Int} (h : a = b) : Ending.returned (Value.int .i64 a) = Ending.returned (Value.int .i64 b) := by rw [h]
theorem longVal {a b : Int} (h : a = b) : Value.int .i64 a = Value.int .i64 b := by rw [h]
theorem rangeIs_c {D : DataW Unit} {l : List Int} {th x c : Int} (hI : MapIs D l th l.length) (hx : Maps.has D (.int .i64 x) = true) (hc : D.atKey (.int .i64 x) (.lit (.int .i64 0)) = .lit (.int .i64 c)) : -1 ≤ c ∧ c < (l.length : Int) := by
  rw [hI.1 x] at hx
  have hin : longIn th x = true := by cases e : longIn th x <;> simp [e] at hx ⊢
  have hne : lastK l x l.length ≠ -1 := by
    intro e
    rw [e, hin] at hx
    exact absurd hx (by decide)
  have hcx := hI.2.1 x hin hne
  rw [hc] at hcx
  have ec : c = lastK l x l.length := by injection hcx with e; injection e
  subst ec
  exact lastK_is l x l.length
theorem longLaw : Maps.Keyed Try.prog 3 := Maps.int_keyed Try.underlying3
theorem longZero (w : World) : (zeroValue 3).run Try.prog w = .ok (.int .i64 0) w := by kernel_rfl

theorem longSame {a b : Int} (h : (DataW.lit (.int .i64 a) : DataW Unit) = .lit (.int .i64 b)) : a = b := by injection h with e; injection e
set_option maxHeartbeats 1000000 in
set_option maxRecDepth 100000 in
theorem picks_longest.calls (A0 : Option Addr) (c0 : Nat) (l0 : List Int) (a1 : Int) (r : Int) (w : World) (hr0 : Kd.C (Kd.int .i64) w A0 l0.length l0) (hc0 : l0.length ≤ c0) (h : picks_longest.f l0 a1 = some r) :
    Calls Try.prog 21 #[.slice A0 l0.length c0, .int .i64 a1] w fun e w' => e = .returned (.int .i64 r) ∧ Below w.heap.size w w' := by
  unfold picks_longest.f at h
  by_cases hd : 1 ≤ a1 ∧ a1 ≤ 4096 ∧ l0.length ≤ 100000
  case neg => rw [if_neg hd] at h; cases h
  rw [if_pos hd] at h
  obtain rfl := Option.some.inj h
  obtain ⟨hd1, hd2, hd3⟩ := hd
  clear h
  have HR0 := Aside0.mk hr0
  clear hr0 hc0
  have hmm := @run_makeMap Try.prog
  go_enter Try.func21, Try.ntmps21
  go_wp2
  go_loopw [6, 16] (fun v6 v16 wr => ∃ (i : Nat) (D : DataW Unit), i ≤ l0.length ∧ v16 = .int .i64 (i : Int) ∧ v6 = .int .i64 (mostK l0 a1 i) ∧ Aside0 (wr.ownsMap Try.prog 3 (plainElem Try.prog 3) w.heap.size i D) ∧ Aside0 (MapIs D l0 a1 i) ∧ Aside0 (Below w.heap.size w wr))
    (fun _ i _ => l0.length - (intOf i).toNat)
  case atStart => exact ⟨0, .map [], Nat.zero_le _, rfl, rfl, ⟨World.ownsMap_made _ _ _ _⟩, ⟨mapIs_start _ _⟩, ⟨(Below.refl _ _).alloc (Nat.le_refl _) _⟩⟩
  case round =>
    obtain ⟨i, D, hi, rfl, rfl, HM, HI, HB⟩ := hrel
    have hm := mostK_is l0 a1 i
    by_cases hlt : i < l0.length
    · obtain ⟨ad, e, hx⟩ := Kd.at_int HR0.out (i : Int) (by omega) (by omega)
      cases e
      replace hx := (HB.out.cell (World.block_lt_of_cell? w _ hx)).trans hx
      rw [show ((i : Int)).toNat = i from rfl] at hx
      obtain ⟨t, ht⟩ : ∃ t, t = rd l0 (i : Int) := ⟨_, rfl⟩
      rw [← ht] at hx
      have HT := Aside0.mk ht
      clear ht
      by_cases h0 : t < 0
      · go_wp2
        go_roundw
        case rel => exact ⟨i + 1, D, by omega, by go_num, longVal (mostK_skip HT.out (longIn_no (Or.inl h0))), ⟨HM.out.mono (Nat.le_succ _)⟩, ⟨mapIs_skip HI.out (by rw [← HT.out]; exact longIn_no (Or.inl h0))⟩, ⟨HB.out⟩⟩
        case measure => simp [intOf]; omega
      by_cases h1 : a1 ≤ t
      · go_wp2
        go_roundw
        case rel => exact ⟨i + 1, D, by omega, by go_num, longVal (mostK_skip HT.out (longIn_no (Or.inr h1))), ⟨HM.out.mono (Nat.le_succ _)⟩, ⟨mapIs_skip HI.out (by rw [← HT.out]; exact longIn_no (Or.inr h1))⟩, ⟨HB.out⟩⟩
        case measure => simp [intOf]; omega
      have hwt : (Lit.int .i64 t).wf = true := WalkArith.wf_i64 (by omega)
      have HK := Aside0.mk (Maps.keyOf_int_mk Try.underlying3 hwt)
      clear hwt
      have HB' := HB.out.size
      have hl := lastK_is l0 t i
      have hhas := HI.out.1 t
      rw [longIn_yes h0 h1, Bool.true_and] at hhas
      by_cases hla : lastK l0 t i = -1
      · rw [hla] at hhas
        replace hhas : Maps.has D (.int .i64 t) = false := by rw [hhas]; rfl
        have HLA := Aside0.mk hla
        clear hla
        go_wp2_with (first
          | (at_lookup; refine wpList_lookup_own_ok_int _ rfl _ _ 35 rfl 3 3 .i64 longLaw Try.underlying35 Try.underlying3 (longZero _) w.heap.size i D rfl HM.out _ _ rfl HK.out ?_; intro c hat hwc; clear hat hwc)
          | (at_mapUpdate; refine wpList_mapUpdate_own _ rfl _ _ _ 35 rfl 3 3 longLaw Try.underlying35 _ w.heap.size i D rfl HM.out (by unfold maxLen; omega) _ _ _ rfl rfl HK.out _ [] (plainElem_int Try.underlying3 (WalkArith.wf_i64 (by omega))) ?_; intro w1 hown1 hgrow1))
        go_roundw
        case rel => exact ⟨i + 1, _, by omega, by go_num, longVal (mostK_new HT.out (longIn_yes h0 h1) HLA.out), ⟨hown1⟩, ⟨by rw [HT.out]; exact mapIs_put HI.out (HM.out.tidy longLaw) (by rw [← HT.out]; exact longIn_yes h0 h1)⟩, ⟨HB.out.grown hgrow1 HB.out.size (fun j hj => by cases hj; exact Nat.le_refl _)⟩⟩
        case measure => simp [intOf]; omega
      · replace hhas : Maps.has D (.int .i64 t) = true := by rw [hhas]; simp [hla]
        have HLA := Aside0.mk (HI.out.2.1 t (longIn_yes h0 h1) hla)
        have HLB := Aside0.mk hl
        clear hla hl
        go_wp2_with (first
          | (at_lookup; refine wpList_lookup_own_ok_int _ rfl _ _ 35 rfl 3 3 .i64 longLaw Try.underlying35 Try.underlying3 (longZero _) w.heap.size i D rfl HM.out _ _ rfl HK.out ?_; intro c hat hwc; clear hwc; (have hce : c = lastK l0 t i := longSame (hat.symm.trans HLA.out)); clear hat; (have hc1 : -1 ≤ c := by rw [hce]; exact HLB.out.1); (have hc2 : c < (i : Int) := by rw [hce]; exact HLB.out.2); have HCE := Aside0.mk hce; clear hce)
          | (at_mapUpdate; refine wpList_mapUpdate_own _ rfl _ _ _ 35 rfl 3 3 longLaw Try.underlying35 _ w.heap.size i D rfl HM.out (by unfold maxLen; omega) _ _ _ rfl rfl HK.out _ [] (plainElem_int Try.underlying3 (WalkArith.wf_i64 (by omega))) ?_; intro w1 hown1 hgrow1))
        go_roundw
        case rel => exact ⟨i + 1, _, by omega, by go_num, longVal (mostK_old HT.out (longIn_yes h0 h1) HCE.out), ⟨hown1⟩, ⟨by rw [HT.out]; exact mapIs_put HI.out (HM.out.tidy longLaw) (by rw [← HT.out]; exact longIn_yes h0 h1)⟩, ⟨HB.out.grown hgrow1 HB.out.size (fun j hj => by cases hj; exact Nat.le_refl _)⟩⟩
        case measure => simp [intOf]; omega
    · obtain rfl : i = l0.length := by omega
      obtain ⟨wo, rfl⟩ : ∃ wo : World, wo = wr := ⟨_, rfl⟩
      have HB' := HB.out.size
      by_cases hc : (Maps.size D : Int) < a1
      · go_wp2_with (at_len; refine wpList_len_own _ rfl _ 35 rfl 3 3 Try.underlying35 _ w.heap.size l0.length D rfl HM.out ?_)
        go_ret
        exact ⟨longRet (longV_few HI.out hc), HB.out⟩
      · go_wp2_with (first
          | (at_len; refine wpList_len_own _ rfl _ 35 rfl 3 3 Try.underlying35 _ w.heap.size l0.length D rfl HM.out ?_)
          | (at_range; refine wpList_range_own _ rfl _ 35 rfl 3 3 longLaw Try.underlying35 _ w.heap.size l0.length D rfl HM.out ?_; intro w0 hrg0 hg0 hs0))
        try go_frame
        go_loopw [6] (fun v6 wr => ∃ (left : Lit → Bool) (cnt : Nat) (m : Int), v6 = .int .i64 m ∧ Aside0 (wr.ranges Try.prog 3 (plainElem Try.prog 3) w.heap.size wo.heap.size l0.length D left cnt) ∧ Aside0 (RangeIs D l0 a1 left m) ∧ Aside0 (Below w.heap.size w wr))
          (fun _ wr => wr.rangeLeft w.heap.size wo.heap.size)
        case atStart => exact ⟨_, _, _, rfl, ⟨hrg0⟩, ⟨rangeIs_start⟩, ⟨HB.out.grown hg0 HB.out.size (fun j hj => by cases hj)⟩⟩
        case round =>
          obtain ⟨left, cnt, m, rfl, HR, HRI, HBr⟩ := hrel
          go_wp2_with (at_next; refine wpList_next_ranges_ii _ rfl _ rfl 3 3 .i64 .i64 longLaw Try.underlying3 Try.underlying3 w.heap.size wo.heap.size l0.length _ _ _ rfl HR.out ?_ ?_)
          · intro _ hl0
            have HL0 := Aside0.mk hl0
            clear hl0
            go_wp2
            go_ret
            exact ⟨longRet (rangeIs_end HI.out HRI.out HL0.out (by omega)), HBr.out⟩
          · intro x c w1 cnt1 hwx hwc hlx hat hrg1 hlt1 hg1 hs1 hen
            have hhx := Maps.has_true_of_atKey hat
            have hcx := hat (.lit (.int .i64 0))
            have hcb := rangeIs_c HI.out hhx hcx
            have HHX := Aside0.mk hhx
            have HCX := Aside0.mk hcx
            clear hat hhx hcx hlx hwx hwc
            have HLT1 := Aside0.mk hlt1
            clear hlt1
            obtain ⟨hcb0, hcb1⟩ := hcb
            go_wp2
            go_roundw
            case rel => exact ⟨_, cnt1, _, rfl, ⟨hrg1⟩, ⟨rangeIs_step HI.out HRI.out HHX.out HCX.out⟩, ⟨HBr.out.grown hg1 HBr.out.size (fun j hj => by cases hj; omega)⟩⟩
            case measure => rw [hrg1.left_eq, HR.out.left_eq]; exact HLT1.out

end Go.Proofs.Ytbjkcplbilopeaa.OS

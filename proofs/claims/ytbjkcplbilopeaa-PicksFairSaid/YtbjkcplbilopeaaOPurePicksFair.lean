/- Which rows of picks are fair, and by which least window, is as the document's reference says (rows of at most 60 picks, at most 20 threads; else only the small case is asked). No conditions. -/
import Derived.Test.YtbjkcplbilopeaaOSx15
import Derived.Test.YtbjkcplbilopeaaOPlainB
namespace Go.Proofs.Ytbjkcplbilopeaa.Pure
open Go.RowKit Go.Proofs.Ytbjkcplbilopeaa.OS Go.Proofs.YtbjkcplbilopeaaW.PrintWords Go.Proofs.YtbjkcplbilopeaaW.PrintLast Go.Proofs.YtbjkcplbilopeaaW.PrintMore

theorem wf_out {n : Int} (h : (Lit.int .i64 n).wf = true) : -9223372036854775808 ≤ n ∧ n ≤ 9223372036854775807 := by
  simp [Lit.wf, IntKind.min, IntKind.max, IntKind.signed, IntKind.bits] at h
  omega
theorem l2_hit (l : List Int) (th W from_ t : Int) (hl : l.length ≤ 60) (hf : 0 ≤ from_) (hW : from_ + W ≤ (l.length : Int)) (hW1 : 1 ≤ W) (r : Bool) (hn : ∃ k, pantryref20_Fair.l1 k l th W from_ (wrap64 (t + 1)) = some r) (n : Nat) :
    ∀ (i : Int) (is : Bool), from_ ≤ i → from_ + W - i = n → (is = true ∨ ∃ j : Int, i ≤ j ∧ j < from_ + W ∧ rd l j = t) → ∃ k, pantryref20_Fair.l2 k l th W from_ t is i = some r := by
  have e : wrap64 (from_ + W) = from_ + W := wrap_in (by omega) (by omega)
  induction n with
  | zero =>
    intro i is h0 h1 h
    obtain ⟨k, hk⟩ := hn
    refine ⟨k + 1, ?_⟩
    rw [pantryref20_Fair.l2]
    rw [e, if_neg (by omega)]
    rcases h with rfl | ⟨j, j0, j1, _⟩
    · rw [if_pos rfl]; exact hk
    · omega
  | succ n ih =>
    intro i is h0 h1 h
    cases is with
    | true =>
      obtain ⟨k, hk⟩ := ih (i + 1) true (by omega) (by omega) (.inl rfl)
      refine ⟨k + 1, ?_⟩
      rw [pantryref20_Fair.l2]
      rw [e, if_pos (by omega), if_pos rfl, wrap_up (by omega) (by omega)]; exact hk
    | false =>
      have h' : (rd l i == t) = true ∨ ∃ j : Int, i + 1 ≤ j ∧ j < from_ + W ∧ rd l j = t := by
        rcases h with h | ⟨j, j0, j1, ej⟩
        · cases h
        · by_cases hj : j = i
          · subst hj; exact .inl (beq_iff_eq.2 ej)
          · exact .inr ⟨j, by omega, j1, ej⟩
      obtain ⟨k, hk⟩ := ih (i + 1) (rd l i == t) (by omega) (by omega) h'
      refine ⟨k + 1, ?_⟩
      rw [pantryref20_Fair.l2]
      rw [e, if_pos (by omega), if_neg (by decide), if_pos (by omega), if_pos (by omega), wrap_up (by omega) (by omega)]; exact hk
theorem l2_miss (l : List Int) (th W from_ t : Int) (hl : l.length ≤ 60) (hf : 0 ≤ from_) (hW : from_ + W ≤ (l.length : Int)) (hW1 : 1 ≤ W) (n : Nat) :
    ∀ (i : Int), from_ ≤ i → from_ + W - i = n → (∀ j : Int, i ≤ j → j < from_ + W → rd l j ≠ t) → ∃ k, pantryref20_Fair.l2 k l th W from_ t false i = some false := by
  have e : wrap64 (from_ + W) = from_ + W := wrap_in (by omega) (by omega)
  induction n with
  | zero =>
    intro i h0 h1 h
    refine ⟨1, ?_⟩
    rw [pantryref20_Fair.l2]
    rw [e, if_neg (by omega), if_neg (by decide)]
  | succ n ih =>
    intro i h0 h1 h
    obtain ⟨k, hk⟩ := ih (i + 1) (by omega) (by omega) (fun j j0 j1 => h j (by omega) j1)
    refine ⟨k + 1, ?_⟩
    rw [pantryref20_Fair.l2]
    rw [e, if_pos (by omega), if_neg (by decide), if_pos (by omega), if_pos (by omega), wrap_up (by omega) (by omega), beq_eq_false_iff_ne.2 (h i (by omega) (by omega))]; exact hk
/-- Does the window from here on hold each thread from t on? -/
theorem l1_all (l : List Int) (th W from_ : Int) (hl : l.length ≤ 60) (hth : th ≤ 20) (hf : 0 ≤ from_) (hW : from_ + W ≤ (l.length : Int)) (hW1 : 1 ≤ W) (r : Bool) (hn : ∃ k, pantryref20_Fair.l0 k l th W (wrap64 (from_ + 1)) = some r) (n : Nat) :
    ∀ (t : Int), 0 ≤ t → t ≤ th → th - t = n → (∀ t' : Int, t ≤ t' → t' < th → ∃ j : Int, from_ ≤ j ∧ j < from_ + W ∧ rd l j = t') → ∃ k, pantryref20_Fair.l1 k l th W from_ t = some r := by
  induction n with
  | zero =>
    intro t h0 h1 h2 _
    obtain ⟨k, hk⟩ := hn
    refine ⟨k + 1, ?_⟩
    rw [pantryref20_Fair.l1]
    rw [if_neg (by omega)]; exact hk
  | succ n ih =>
    intro t h0 h1 h2 h
    obtain ⟨k, hk⟩ := l2_hit l th W from_ t hl hf hW hW1 r (by rw [wrap_up h0 (by omega)]; exact ih (t + 1) (by omega) (by omega) (by omega) (fun t' a b => h t' (by omega) b)) W.toNat from_ false (by omega) (by omega) (.inr (h t (by omega) (by omega)))
    refine ⟨k + 1, ?_⟩
    rw [pantryref20_Fair.l1]
    rw [if_pos (by omega)]; exact hk
open Classical in
theorem l1_miss (l : List Int) (th W from_ : Int) (hl : l.length ≤ 60) (hth : th ≤ 20) (hf : 0 ≤ from_) (hW : from_ + W ≤ (l.length : Int)) (hW1 : 1 ≤ W) (n : Nat) :
    ∀ (t : Int), 0 ≤ t → t ≤ th → th - t = n → (∃ t' : Int, t ≤ t' ∧ t' < th ∧ ∀ j : Int, from_ ≤ j → j < from_ + W → rd l j ≠ t') → ∃ k, pantryref20_Fair.l1 k l th W from_ t = some false := by
  induction n with
  | zero => intro t h0 h1 h2 ⟨t', a, b, _⟩; omega
  | succ n ih =>
    intro t h0 h1 h2 ⟨t', a, b, hm⟩
    by_cases hc : ∃ j : Int, from_ ≤ j ∧ j < from_ + W ∧ rd l j = t
    · have hne : t' ≠ t := by intro e; subst e; obtain ⟨j, j0, j1, ej⟩ := hc; exact hm j j0 j1 ej
      obtain ⟨k, hk⟩ := l2_hit l th W from_ t hl hf hW hW1 false (by rw [wrap_up h0 (by omega)]; exact ih (t + 1) (by omega) (by omega) (by omega) ⟨t', by omega, b, hm⟩) W.toNat from_ false (by omega) (by omega) (.inr hc)
      refine ⟨k + 1, ?_⟩
      rw [pantryref20_Fair.l1]
      rw [if_pos (by omega)]; exact hk
    · obtain ⟨k, hk⟩ := l2_miss l th W from_ t hl hf hW hW1 W.toNat from_ (by omega) (by omega) (fun j j0 j1 ej => hc ⟨j, j0, j1, ej⟩)
      refine ⟨k + 1, ?_⟩
      rw [pantryref20_Fair.l1]
      rw [if_pos (by omega)]; exact hk
/-- The windows from s on. -/
def CoversFrom (l : List Int) (th W s0 : Int) : Prop :=
  ∀ s : Int, s0 ≤ s → s + W ≤ (l.length : Int) → ∀ t : Int, 0 ≤ t → t < th → ∃ i : Int, s ≤ i ∧ i < s + W ∧ rd l i = t
open Classical in
theorem l0_is (l : List Int) (th W : Int) (hl : l.length ≤ 60) (hth0 : 1 ≤ th) (hth : th ≤ 20) (hW1 : 1 ≤ W) (hW2 : W ≤ 9223372036854775807) (n : Nat) :
    ∀ (s : Int), 0 ≤ s → s ≤ (l.length : Int) + 1 → (l.length : Int) + 1 - s = n → ∃ k, pantryref20_Fair.l0 k l th W s = some (decide (CoversFrom l th W s)) := by
  have e : wrap64 ((l.length : Int) - W) = (l.length : Int) - W := wrap_in (by omega) (by omega)
  induction n with
  | zero =>
    intro s h0 h1 h2
    refine ⟨1, ?_⟩
    rw [pantryref20_Fair.l0]
    rw [e, if_neg (by omega), decide_eq_true (p := CoversFrom l th W s) (fun s' a b => by omega)]
  | succ n ih =>
    intro s h0 h1 h2
    by_cases hs : s ≤ (l.length : Int) - W
    · obtain ⟨k0, hk0⟩ := ih (s + 1) (by omega) (by omega) (by omega)
      by_cases hc : ∀ t : Int, 0 ≤ t → t < th → ∃ i : Int, s ≤ i ∧ i < s + W ∧ rd l i = t
      · have eq : CoversFrom l th W s ↔ CoversFrom l th W (s + 1) := by
          constructor
          · intro h s' a b; exact h s' (by omega) b
          · intro h s' a b
            by_cases es : s' = s
            · subst es; exact hc
            · exact h s' (by omega) b
        obtain ⟨k, hk⟩ := l1_all l th W s hl hth h0 (by omega) hW1 (decide (CoversFrom l th W (s + 1))) ⟨k0, by rw [wrap_up h0 (by omega)]; exact hk0⟩ th.toNat 0 (by omega) (by omega) (by omega) (fun t' a b => hc t' a b)
        refine ⟨k + 1, ?_⟩
        rw [pantryref20_Fair.l0]
        rw [e, if_pos hs, hk]
        congr 1
        exact decide_eq_decide.2 eq.symm
      · have hno : ¬ CoversFrom l th W s := fun h => hc (h s (by omega) (by omega))
        have hex : ∃ t' : Int, 0 ≤ t' ∧ t' < th ∧ ∀ j : Int, s ≤ j → j < s + W → rd l j ≠ t' := by
          apply byContradiction
          intro hn
          refine hc fun t a b => ?_
          apply byContradiction
          intro hm
          exact hn ⟨t, a, b, fun j j0 j1 ej => hm ⟨j, j0, j1, ej⟩⟩
        obtain ⟨k, hk⟩ := l1_miss l th W s hl hth h0 (by omega) hW1 th.toNat 0 (by omega) (by omega) (by omega) hex
        refine ⟨k + 1, ?_⟩
        rw [pantryref20_Fair.l0]
        rw [e, if_pos hs, hk, decide_eq_false hno]
    · refine ⟨1, ?_⟩
      rw [pantryref20_Fair.l0]
      rw [e, if_neg hs, decide_eq_true (p := CoversFrom l th W s) (fun s' a b => by omega)]
open Classical in
theorem ref_fair_is (l : List Int) (th W : Int) (hl : l.length ≤ 60) (hth0 : 1 ≤ th) (hth : th ≤ 20) (hW2 : W ≤ 9223372036854775807) : ∃ K, ∀ k, K ≤ k → pantryref20_Fair.f k l th W = some (decide (1 ≤ W ∧ Covers l th W)) := by
  refine ev_at (fun k => pantryref20_Fair.mono l th W k) ?_
  by_cases hW : W < 1
  · refine ⟨0, ?_⟩
    unfold pantryref20_Fair.f
    rw [if_neg (by omega), if_pos hW, decide_eq_false (by omega)]
  · obtain ⟨k, hk⟩ := l0_is l th W hl hth0 hth (by omega) hW2 (l.length + 1) 0 (by omega) (by omega) (by omega)
    refine ⟨k, ?_⟩
    unfold pantryref20_Fair.f
    rw [if_neg (by omega), if_neg hW, hk]
    congr 1
    refine decide_eq_decide.2 ⟨fun h => ⟨by omega, fun s a b => h s a b⟩, fun h => fun s a b => h.2 s a b⟩

open Classical in
theorem ref_wait_is (l : List Int) (th : Int) (hl : l.length ≤ 60) (hth0 : 1 ≤ th) (hth : th ≤ 20) (n : Nat) :
    ∀ (w : Int), 1 ≤ w → w ≤ longV l th + 1 → longV l th + 1 - w = n → ∃ K, ∀ k, K ≤ k → pantryref20_Wait.l0 k l th w = some (longV l th + 1) := by
  have hb := longV_is l th
  induction n with
  | zero =>
    intro w h0 h1 h2
    obtain rfl : w = longV l th + 1 := by omega
    obtain ⟨K, hK⟩ := ref_fair_is l th (longV l th + 1) hl hth0 hth (by omega)
    refine ⟨K + 1, fun k hk => ?_⟩
    obtain ⟨k, rfl⟩ : ∃ m, k = m + 1 := ⟨k - 1, by omega⟩
    rw [pantryref20_Wait.l0]
    by_cases hw : longV l th + 1 ≤ (l.length : Int)
    · rw [if_pos hw, hK k (by omega)]
      have := (longV_lt l th (longV l th + 1) hth0 (by omega) hw).1 (by omega)
      rw [decide_eq_true ⟨by omega, this⟩]; rfl
    · rw [if_neg hw]
  | succ n ih =>
    intro w h0 h1 h2
    obtain ⟨K, hK⟩ := ref_fair_is l th w hl hth0 hth (by omega)
    obtain ⟨K2, hK2⟩ := ih (w + 1) (by omega) (by omega) (by omega)
    refine ⟨K + K2 + 1, fun k hk => ?_⟩
    obtain ⟨k, rfl⟩ : ∃ m, k = m + 1 := ⟨k - 1, by omega⟩
    rw [pantryref20_Wait.l0]
    rw [if_pos (by omega), hK k (by omega)]
    have hno : ¬ Covers l th w := fun h => by have := (longV_lt l th w hth0 h0 (by omega)).2 h; omega
    rw [decide_eq_false (fun h => hno h.2)]
    simp only [Option.bind_some]
    rw [if_neg (by decide), wrap_up (by omega) (by omega)]
    exact hK2 k (by omega)

open Classical in
theorem PicksFair : pantrylaw20_PicksFair.Pure := by
  intro l th W _ _ _ _ hW
  have hW2 : W ≤ 9223372036854775807 := by
    have := wf_out hW
    omega
  have done : ∀ k : Nat, 61 ≤ k → pantrylaw20_PicksFair.j0 k l th W true true = some true := by
    intro k hk
    obtain ⟨k, rfl⟩ : ∃ m, k = m + 1 := ⟨k - 1, by omega⟩
    rw [pantrylaw20_PicksFair.j0]; rfl
  by_cases h1 : (l.length : Int) > 60
  · refine ⟨61, ?_⟩
    unfold pantrylaw20_PicksFair.f
    rw [small_at (by omega)]; simp only [Option.bind_some]
    rw [if_pos h1, done _ (by omega)]
  by_cases h2 : th > 20
  · refine ⟨61, ?_⟩
    unfold pantrylaw20_PicksFair.f
    rw [small_at (by omega)]; simp only [Option.bind_some]
    rw [if_neg h1, decide_eq_true h2, done _ (by omega)]
  by_cases h3 : th < 1
  · refine ⟨61, ?_⟩
    unfold pantrylaw20_PicksFair.f
    rw [small_at (by omega)]; simp only [Option.bind_some]
    rw [if_neg h1, decide_eq_false h2]
    rw [pantrylaw20_PicksFair.j0]
    rw [if_neg (by decide), if_pos rfl]
    simp only [picks_Fair.f, pantryref20_Fair.f, picks_Wait.f, pantryref20_Wait.f, if_pos h3, Option.bind_some]
    rfl
  · obtain ⟨K, hK⟩ := ref_fair_is l th W (by omega) (by omega) (by omega) hW2
    have hb := longV_is l th
    obtain ⟨K2, hK2⟩ := ref_wait_is l th (by omega) (by omega) (by omega) (longV l th).toNat 1 (by omega) (by omega) (by omega)
    refine ⟨K + K2 + 62, ?_⟩
    unfold pantrylaw20_PicksFair.f
    rw [small_at (by omega)]; simp only [Option.bind_some]
    rw [if_neg h1, decide_eq_false h2]
    rw [pantrylaw20_PicksFair.j0]
    rw [if_neg (by decide), if_pos rfl, fair_is l th W (by omega) (by omega) (by omega), hK _ (by omega), wait_is l th (by omega) (by omega) (by omega)]
    simp only [Option.bind_some]
    unfold pantryref20_Wait.f
    rw [if_neg h3, hK2 _ (by omega)]
    simp

end Go.Proofs.Ytbjkcplbilopeaa.Pure
